/- IpsixQuads, walked: four numbers for the last two pieces are those; six pieces ahead of them, or a pair of colons. -/
import Derived.Test.YtodpjdeffhbkpaaGreatDoorSixDecimal
import Derived.Test.YtodpjdeffhbkpaaGreatDoorSixRefText
import Derived.Test.YtodpjdeffhbkpaaGreatDoorSixQuadsPure
set_option linter.unusedVariables false
set_option linter.unusedSimpArgs false
set_option maxRecDepth 100000
namespace Go.Proofs.YtodpjdeffhbkpaaGreatDoor
open Go.RowKit Four Six

theorem add_mkB (x y : List UInt8) (h : x.length + y.length ≤ 1000) (w : World) : (Op.stringOp .add (mkB x) (mkB y)).run Tryz.prog w = .ok (.string (mkB (x ++ y))) w := by
  rw [← mkB_append]
  exact run_string_add_sum w _ _ (by rw [mkB_size, mkB_size]; omega)

set_option maxHeartbeats 8000000 in
theorem quads_calls (a : List Nat) (h8 : a.length = 8) (ha : ∀ n ∈ a, n < 65536) (n0 n1 n2 n3 : Nat) (h0 : n0 ≤ 255) (h1 : n1 ≤ 255) (h2 : n2 ≤ 255) (h3 : n3 ≤ 255) (w : World) (hF : FW w) : Calls Tryz.prog 3 #[.agg (cellsA a).toArray, .agg #[.int .u8 n0, .int .u8 n1, .int .u8 n2, .int .u8 n3]] w fun e w' => e = .returned (.bool true) ∧ Below w.heap.size w w' := by
  have HF := Lib.hid hF
  clear hF
  have hql := quadT_len n0 n1 n2 n3 h0 h1 h2 h3
  have l0 := (dec_len2 n0 9 (by omega)).2
  have l1 := (dec_len2 n1 9 (by omega)).2
  have l2 := (dec_len2 n2 9 (by omega)).2
  have l3 := (dec_len2 n3 9 (by omega)).2
  have q1 := fun w => add_mkB (Lib.decDigits n0) [46] (by simp only [List.length_append, List.length_singleton]; omega) w
  have q2 := fun w => add_mkB (Lib.decDigits n0 ++ [46]) (Lib.decDigits n1) (by simp only [List.length_append, List.length_singleton]; omega) w
  have q3 := fun w => add_mkB (Lib.decDigits n0 ++ [46] ++ Lib.decDigits n1) [46] (by simp only [List.length_append, List.length_singleton]; omega) w
  have q4 := fun w => add_mkB (Lib.decDigits n0 ++ [46] ++ Lib.decDigits n1 ++ [46]) (Lib.decDigits n2) (by simp only [List.length_append, List.length_singleton]; omega) w
  have q5 := fun w => add_mkB (Lib.decDigits n0 ++ [46] ++ Lib.decDigits n1 ++ [46] ++ Lib.decDigits n2) [46] (by simp only [List.length_append, List.length_singleton]; omega) w
  have q6 := fun w => add_mkB (Lib.decDigits n0 ++ [46] ++ Lib.decDigits n1 ++ [46] ++ Lib.decDigits n2 ++ [46]) (Lib.decDigits n3) (by simp only [List.length_append, List.length_singleton]; omega) w
  have hQ : mkB (Lib.decDigits n0 ++ [46] ++ Lib.decDigits n1 ++ [46] ++ Lib.decDigits n2 ++ [46] ++ Lib.decDigits n3) = mkB (quadT n0 n1 n2 n3) := by
    congr 1
    unfold quadT
    simp only [List.append_assoc, List.cons_append, List.nil_append]
  rw [hQ] at q6
  have hP1 := fun (W : World) (h : FW W) => parse_ok (mkB (preL (a.take 6) ++ quadT n0 n1 n2 n3)) _ (by rw [mkB_data]; exact quads_x a h8 ha n0 n1 n2 n3 h0 h1 h2 h3) h (by rw [mkB_size, List.length_append]; have := pre_len (a.take 6) (fun n hn => ha n (List.mem_of_mem_take hn)); simp [h8] at this; omega)
  have hP2 := fun (W : World) (h : FW W) => parse_ok (mkB (58 :: 58 :: quadT n0 n1 n2 n3)) _ (by rw [mkB_data]; exact parse_pair_quad n0 n1 n2 n3 h0 h1 h2 h3) h (by rw [mkB_size]; simp; omega)
  have hP3 := fun (W : World) (h : FW W) => parse_none (mkB (preL (a.take 6) ++ [48, 58] ++ quadT n0 n1 n2 n3)) (by rw [mkB_data]; exact quads_z a h8 ha n0 n1 n2 n3 h0 h1 h2 h3) h (by rw [mkB_size, List.length_append, List.length_append]; have := pre_len (a.take 6) (fun n hn => ha n (List.mem_of_mem_take hn)); simp [h8] at this; simp; omega)
  have hpl : ∀ k, k ≤ 6 → (preL (a.take k)).length ≤ 30 := fun k hk => by
    have := pre_len (a.take k) (fun n hn => ha n (List.mem_of_mem_take hn))
    rw [List.length_take] at this
    omega
  have s1 := fun w => add_mkB (preL (a.take 6)) (quadT n0 n1 n2 n3) (by have := hpl 6 (by omega); omega) w
  have s2 := fun w => add_mkB [58, 58] (quadT n0 n1 n2 n3) (by simp; omega) w
  have s3 := fun w => add_mkB (preL (a.take 6)) [48, 58] (by have := hpl 6 (by omega); simp; omega) w
  have s4 := fun w => add_mkB (preL (a.take 6) ++ [48, 58]) (quadT n0 n1 n2 n3) (by have := hpl 6 (by omega); simp; omega) w
  obtain ⟨y6, hy6⟩ : ∃ y : Nat, y = 256 * n0 + n1 := ⟨_, rfl⟩
  obtain ⟨y7, hy7⟩ : ∃ y : Nat, y = 256 * n2 + n3 := ⟨_, rfl⟩
  rw [← hy6, ← hy7] at hP1 hP2
  have c0 : IntKind.u16.wrap (n0 : Int) = (n0 : Int) := by rw [IntKind.wrap_u16]; omega
  have c1 : IntKind.u16.wrap (n1 : Int) = (n1 : Int) := by rw [IntKind.wrap_u16]; omega
  have c2 : IntKind.u16.wrap (n2 : Int) = (n2 : Int) := by rw [IntKind.wrap_u16]; omega
  have c3 : IntKind.u16.wrap (n3 : Int) = (n3 : Int) := by rw [IntKind.wrap_u16]; omega
  obtain ⟨p0, hp0⟩ : ∃ p : Int, p = 256 * (n0 : Int) := ⟨_, rfl⟩
  obtain ⟨p2, hp2⟩ : ∃ p : Int, p = 256 * (n2 : Int) := ⟨_, rfl⟩
  have m0 : IntKind.u16.wrap (256 * (n0 : Int)) = p0 := by rw [IntKind.wrap_u16, hp0]; omega
  have m2 : IntKind.u16.wrap (256 * (n2 : Int)) = p2 := by rw [IntKind.wrap_u16, hp2]; omega
  have m1 : IntKind.u16.wrap (p0 + (n1 : Int)) = (y6 : Int) := by rw [IntKind.wrap_u16, hp0, hy6]; omega
  have m3 : IntKind.u16.wrap (p2 + (n3 : Int)) = (y7 : Int) := by rw [IntKind.wrap_u16, hp2, hy7]; omega
  have HR := Lib.hid (show ∀ k, k < 6 → ∃ v, v < 65536 ∧ a[k]? = some v ∧ (preL (a.take k)).length ≤ 30 ∧ preL (a.take (k + 1)) = preL (a.take k) ++ hexL v ++ [58] from fun k hk => by
    have hl : k < a.length := by omega
    refine ⟨a[k], ha _ (List.getElem_mem _), List.getElem?_eq_getElem _, hpl k (by omega), ?_⟩
    rw [List.take_succ_eq_append_getElem hl, pre_snoc])
  have HAC := Lib.hid (show ∀ (k v : Nat), a[k]? = some v → (cellsA a).toArray[k]? = some (Value.int .u16 (v : Int)) from fun k v h => by simp [cellsA, h])
  obtain ⟨S6, hS6⟩ : ∃ S, S = mkB (preL (a.take 6)) := ⟨_, rfl⟩
  have HS6 := Lib.hid hS6
  obtain ⟨x0, x1, x2, x3, x4, x5, x6, x7, hxs⟩ := eight_of h8
  have hx6 : a.take 6 ++ [y6, y7] = [x0, x1, x2, x3, x4, x5, y6, y7] := by rw [hxs]; rfl
  rw [hx6] at hP1
  have hz1 : ∀ w, (Op.equalIn 10000 23 (.agg #[.int .u16 x0, .int .u16 x1, .int .u16 x2, .int .u16 x3, .int .u16 x4, .int .u16 x5, .int .u16 y6, .int .u16 y7]) (.agg #[.int .u16 x0, .int .u16 x1, .int .u16 x2, .int .u16 x3, .int .u16 x4, .int .u16 x5, .int .u16 y6, .int .u16 y7])).run Tryz.prog w = .ok true w := fun w => by
    have := eq16 (a := [x0, x1, x2, x3, x4, x5, y6, y7]) (b := [x0, x1, x2, x3, x4, x5, y6, y7]) rfl rfl rfl rfl w
    rw [cells_eight] at this
    rwa [beq_self_eq_true] at this
  have hz2 : ∀ w, (Op.equalIn 10000 23 (.agg #[.int .u16 0, .int .u16 0, .int .u16 0, .int .u16 0, .int .u16 0, .int .u16 0, .int .u16 y6, .int .u16 y7]) (.agg #[.int .u16 0, .int .u16 0, .int .u16 0, .int .u16 0, .int .u16 0, .int .u16 0, .int .u16 y6, .int .u16 y7])).run Tryz.prog w = .ok true w := fun w => by
    have := eq16 (a := [0, 0, 0, 0, 0, 0, y6, y7]) (b := [0, 0, 0, 0, 0, 0, y6, y7]) rfl rfl rfl rfl w
    rw [cells_eight] at this
    rwa [beq_self_eq_true] at this
  have hcc : (cellsA a).toArray = #[.int .u16 x0, .int .u16 x1, .int .u16 x2, .int .u16 x3, .int .u16 x4, .int .u16 x5, .int .u16 x6, .int .u16 x7] := by rw [hxs]; exact cells_eight _ _ _ _ _ _ _ _
  rw [cells_eight] at hP1 hP2
  rw [hcc] at HAC ⊢
  have hD0 := fun W => decimal_calls n0 (by omega) W
  have hD1 := fun W => decimal_calls n1 (by omega) W
  have hD2 := fun W => decimal_calls n2 (by omega) W
  have hD3 := fun W => decimal_calls n3 (by omega) W
  obtain ⟨E5, hE5⟩ : ∃ E, E = mkB (Lib.decDigits n0 ++ [46] ++ Lib.decDigits n1 ++ [46] ++ Lib.decDigits n2 ++ [46]) := ⟨_, rfl⟩
  obtain ⟨E4, hE4⟩ : ∃ E, E = mkB (Lib.decDigits n0 ++ [46] ++ Lib.decDigits n1 ++ [46] ++ Lib.decDigits n2) := ⟨_, rfl⟩
  obtain ⟨E3, hE3⟩ : ∃ E, E = mkB (Lib.decDigits n0 ++ [46] ++ Lib.decDigits n1 ++ [46]) := ⟨_, rfl⟩
  obtain ⟨E2, hE2⟩ : ∃ E, E = mkB (Lib.decDigits n0 ++ [46] ++ Lib.decDigits n1) := ⟨_, rfl⟩
  obtain ⟨E1, hE1⟩ : ∃ E, E = mkB (Lib.decDigits n0 ++ [46]) := ⟨_, rfl⟩
  rw [← hE1] at q1 q2
  rw [← hE2] at q2 q3
  rw [← hE3] at q3 q4
  rw [← hE4] at q4 q5
  rw [← hE5] at q5 q6
  obtain ⟨D0, hd0⟩ : ∃ E, E = mkB (Lib.decDigits n0) := ⟨_, rfl⟩
  obtain ⟨D1, hd1⟩ : ∃ E, E = mkB (Lib.decDigits n1) := ⟨_, rfl⟩
  obtain ⟨D2, hd2⟩ : ∃ E, E = mkB (Lib.decDigits n2) := ⟨_, rfl⟩
  obtain ⟨D3, hd3⟩ : ∃ E, E = mkB (Lib.decDigits n3) := ⟨_, rfl⟩
  rw [← hd0] at q1 hD0
  rw [← hd1] at q2 hD1
  rw [← hd2] at q4 hD2
  rw [← hd3] at q6 hD3
  obtain ⟨Q, hQ'⟩ : ∃ E, E = mkB (quadT n0 n1 n2 n3) := ⟨_, rfl⟩
  rw [← hQ'] at q6 s1 s2 s4
  rw [← hS6] at s1 s3
  obtain ⟨X1, hX1⟩ : ∃ E, E = mkB (preL (a.take 6) ++ quadT n0 n1 n2 n3) := ⟨_, rfl⟩
  rw [← hX1] at s1 hP1
  obtain ⟨X2, hX2⟩ : ∃ E, E = mkB (58 :: 58 :: quadT n0 n1 n2 n3) := ⟨_, rfl⟩
  rw [show mkB ([58, 58] ++ quadT n0 n1 n2 n3) = X2 from hX2.symm] at s2
  rw [← hX2] at hP2
  obtain ⟨X3, hX3⟩ : ∃ E, E = mkB (preL (a.take 6) ++ [48, 58]) := ⟨_, rfl⟩
  rw [← hX3] at s3 s4
  obtain ⟨X4, hX4⟩ : ∃ E, E = mkB (preL (a.take 6) ++ [48, 58] ++ quadT n0 n1 n2 n3) := ⟨_, rfl⟩
  rw [← hX4] at s4 hP3
  rw [show mkB [46] = (⟨#[46]⟩ : ByteArray) from rfl] at q1 q3 q5
  rw [show mkB [58, 58] = (⟨#[58, 58]⟩ : ByteArray) from rfl] at s2
  rw [show mkB [48, 58] = (⟨#[48, 58]⟩ : ByteArray) from rfl] at s3
  have HQ := Lib.hid (And.intro q1 (And.intro q2 (And.intro q3 (And.intro q4 (And.intro q5 q6)))))
  have HS := Lib.hid (And.intro s1 (And.intro s2 (And.intro s3 s4)))
  have HC := Lib.hid (And.intro c0 (And.intro c1 (And.intro c2 (And.intro c3 (And.intro m0 (And.intro m1 (And.intro m2 m3)))))))
  have HZ := Lib.hid (And.intro hz1 hz2)
  have HP1 := Lib.hid hP1
  have HP2 := Lib.hid hP2
  have HP3 := Lib.hid hP3
  have HD0 := Lib.hid hD0
  have HD1 := Lib.hid hD1
  have HD2 := Lib.hid hD2
  have HD3 := Lib.hid hD3
  clear hql l0 l1 l2 l3 hQ hE1 hE2 hE3 hE4 hE5 hd0 hd1 hd2 hd3 hQ' hX1 hX2 hX3 hX4 hpl q1 q2 q3 q4 q5 q6 s1 s2 s3 s4 c0 c1 c2 c3 m0 m1 m2 m3 hp0 hp2 hy6 hy7 hz1 hz2 hP1 hP2 hP3 hD0 hD1 hD2 hD3 hcc hxs hx6 hS6 h0 h1 h2 h3 h8 ha
  go_enter Tryz.func3, Tryz.ntmps3
  go_wp2_with fail
  have HA0 := Lib.hid (show Below w.heap.size w ((w.alloc (.cells #[.int .u16 x0, .int .u16 x1, .int .u16 x2, .int .u16 x3, .int .u16 x4, .int .u16 x5, .int .u16 x6, .int .u16 x7] 23)).alloc (.cells #[.int .u8 n0, .int .u8 n1, .int .u8 n2, .int .u8 n3] 24)) from ((Below.refl _ _).alloc (Nat.le_refl _) _).alloc (by simp) _)
  have KA0 := Lib.hid ((Blk.new w 23 #[.int .u16 x0, .int .u16 x1, .int .u16 x2, .int .u16 x3, .int .u16 x4, .int .u16 x5, .int .u16 x6, .int .u16 x7]).alloc (.cells #[.int .u8 n0, .int .u8 n1, .int .u8 n2, .int .u8 n3] 24))
  have KN0 := Lib.hid (show Blk ((w.alloc (.cells #[.int .u16 x0, .int .u16 x1, .int .u16 x2, .int .u16 x3, .int .u16 x4, .int .u16 x5, .int .u16 x6, .int .u16 x7] 23)).alloc (.cells #[.int .u8 n0, .int .u8 n1, .int .u8 n2, .int .u8 n3] 24)) (w.heap.size + 1) 24 #[.int .u8 n0, .int .u8 n1, .int .u8 n2, .int .u8 n3] from by have := Blk.new (w.alloc (.cells #[.int .u16 x0, .int .u16 x1, .int .u16 x2, .int .u16 x3, .int .u16 x4, .int .u16 x5, .int .u16 x6, .int .u16 x7] 23)) 24 #[.int .u8 n0, .int .u8 n1, .int .u8 n2, .int .u8 n3]; simpa using this)
  refine (awake_calls (HF.out.keep HA0.out)).mono ?_
  rintro e w1 ⟨rfl, hb1⟩
  have H1 := Lib.hid (belowOn HA0.out HA0.out.size hb1)
  have KA1 := Lib.hid (KA0.out.keep hb1)
  have KN1 := Lib.hid (KN0.out.keep hb1)
  clear hb1 KA0 KN0 HA0
  obtain ⟨q1, q2, q3, q4, q5, q6⟩ := HQ.out
  have HC0 := Lib.hid (show w1.cell? ⟨w.heap.size + 1, 0, none⟩ = some (.int .u8 n0) ∧ w1.cell? ⟨w.heap.size + 1, 1, none⟩ = some (.int .u8 n1) ∧ w1.cell? ⟨w.heap.size + 1, 2, none⟩ = some (.int .u8 n2) ∧ w1.cell? ⟨w.heap.size + 1, 3, none⟩ = some (.int .u8 n3) from ⟨KN1.out.cell 0, KN1.out.cell 1, KN1.out.cell 2, KN1.out.cell 3⟩)
  have B0 := Lib.hid (show Below w1.heap.size w1 w1.drew from (Below.refl _ _).drew)
  go_wp2_with fail
  go_region_held3 (fun w' => w'.cell? ⟨w.heap.size + 1, 0, none⟩ = some (.int .u8 n0) ∧ w'.cell? ⟨w.heap.size + 1, 1, none⟩ = some (.int .u8 n1) ∧ w'.cell? ⟨w.heap.size + 1, 2, none⟩ = some (.int .u8 n2) ∧ w'.cell? ⟨w.heap.size + 1, 3, none⟩ = some (.int .u8 n3))
    (first | exact HC0.out | exact HC1.out | exact HC2.out | exact HC3.out | exact HC4.out | go_keep)
    (first
      | (go_at_call 9; (with_reducible refine (HD0.out w1.drew).mono ?_); rintro e w2 ⟨rfl, hb⟩; have B1 := Lib.hid (belowOn B0.out B0.out.size hb); have HC1 := Lib.hid (show w2.cell? ⟨w.heap.size + 1, 0, none⟩ = some (.int .u8 n0) ∧ w2.cell? ⟨w.heap.size + 1, 1, none⟩ = some (.int .u8 n1) ∧ w2.cell? ⟨w.heap.size + 1, 2, none⟩ = some (.int .u8 n2) ∧ w2.cell? ⟨w.heap.size + 1, 3, none⟩ = some (.int .u8 n3) from ⟨(KN1.out.drew.keep hb).cell 0, (KN1.out.drew.keep hb).cell 1, (KN1.out.drew.keep hb).cell 2, (KN1.out.drew.keep hb).cell 3⟩); clear hb)
      | (go_at_call 9; (with_reducible refine (HD1.out w2).mono ?_); rintro e w3 ⟨rfl, hb⟩; have B2 := Lib.hid (belowOn B1.out B1.out.size hb); have HC2 := Lib.hid (show w3.cell? ⟨w.heap.size + 1, 0, none⟩ = some (.int .u8 n0) ∧ w3.cell? ⟨w.heap.size + 1, 1, none⟩ = some (.int .u8 n1) ∧ w3.cell? ⟨w.heap.size + 1, 2, none⟩ = some (.int .u8 n2) ∧ w3.cell? ⟨w.heap.size + 1, 3, none⟩ = some (.int .u8 n3) from ⟨(((KN1.out).keep B1.out).keep hb).cell 0, (((KN1.out).keep B1.out).keep hb).cell 1, (((KN1.out).keep B1.out).keep hb).cell 2, (((KN1.out).keep B1.out).keep hb).cell 3⟩); clear hb)
      | (go_at_call 9; (with_reducible refine (HD2.out w3).mono ?_); rintro e w4 ⟨rfl, hb⟩; have B3 := Lib.hid (belowOn B2.out B2.out.size hb); have HC3 := Lib.hid (show w4.cell? ⟨w.heap.size + 1, 0, none⟩ = some (.int .u8 n0) ∧ w4.cell? ⟨w.heap.size + 1, 1, none⟩ = some (.int .u8 n1) ∧ w4.cell? ⟨w.heap.size + 1, 2, none⟩ = some (.int .u8 n2) ∧ w4.cell? ⟨w.heap.size + 1, 3, none⟩ = some (.int .u8 n3) from ⟨(((KN1.out).keep B2.out).keep hb).cell 0, (((KN1.out).keep B2.out).keep hb).cell 1, (((KN1.out).keep B2.out).keep hb).cell 2, (((KN1.out).keep B2.out).keep hb).cell 3⟩); clear hb)
      | (go_at_call 9; (with_reducible refine (HD3.out w4).mono ?_); rintro e w5 ⟨rfl, hb⟩; have B4 := Lib.hid (belowOn B3.out B3.out.size hb); have HC4 := Lib.hid (show w5.cell? ⟨w.heap.size + 1, 0, none⟩ = some (.int .u8 n0) ∧ w5.cell? ⟨w.heap.size + 1, 1, none⟩ = some (.int .u8 n1) ∧ w5.cell? ⟨w.heap.size + 1, 2, none⟩ = some (.int .u8 n2) ∧ w5.cell? ⟨w.heap.size + 1, 3, none⟩ = some (.int .u8 n3) from ⟨(((KN1.out).keep B3.out).keep hb).cell 0, (((KN1.out).keep B3.out).keep hb).cell 1, (((KN1.out).keep B3.out).keep hb).cell 2, (((KN1.out).keep B3.out).keep hb).cell 3⟩); clear hb))
  have H5 := Lib.hid (belowOn H1.out H1.out.size B4.out)
  have KA5 := Lib.hid (KA1.out.keep B4.out)
  have KN5 := Lib.hid (KN1.out.keep B4.out)
  clear q1 q2 q3 q4 q5 q6 HC0 HC1 HC2 HC3 HC4 B0 B1 B2 B3 B4 KA1 KN1 H1
  go_wp2_with fail
  go_loopg [8, 7] 6 (fun m v8 v7 w' => Hid (∃ k : Nat, k ≤ 6 ∧ m = 6 - k ∧ v8 = .int .i64 k ∧ v7 = .string (mkB (preL (a.take k))) ∧ Below w5.heap.size w5 w'))
  case atStart => exact ⟨0, by omega, by omega, rfl, rfl, Below.refl _ _⟩
  case round =>
    obtain ⟨k, hk, hm, rfl, rfl, hbw⟩ := hrel.out
    have HM := Lib.hid hm
    have HBW := Lib.hid hbw
    clear hrel hm hbw
    by_cases hk6 : k < 6
    · have hk6' : (k : Int) < 6 := by omega
      have hk8' : (k : Int) < 8 := by omega
      obtain ⟨v, hv, hav, hlen, hnext⟩ := HR.out k hk6
      have hcell : wr.cell? ⟨w.heap.size, k, none⟩ = some (.int .u16 v) := by
        rw [(KA5.out.keep HBW.out).cell]
        exact HAC.out k v hav
      have HX := Lib.hid (hex_calls v hv wr)
      have t1 := fun w => add_mkB (preL (a.take k)) (hexL v) (by have := (hex_len4 hv).2; omega) w
      have t2 := fun w => add_mkB (preL (a.take k) ++ hexL v) [58] (by have := (hex_len4 hv).2; simp; omega) w
      rw [← hnext, show mkB [58] = (⟨#[58]⟩ : ByteArray) from rfl] at t2
      generalize mkB (preL (a.take k)) = S at t1
      generalize mkB (preL (a.take k) ++ hexL v) = S1 at t1 t2
      generalize mkB (hexL v) = XV at t1 HX
      have HKM := Lib.hid hk6
      clear hav hlen hnext hv hk6 hk
      go_wp2_with fail
      refine HX.out.mono ?_
      rintro e w6 ⟨rfl, hb6⟩
      have HB6 := Lib.hid (belowOn HBW.out HBW.out.size hb6)
      clear hb6
      go_wp2_with fail
      go_roundg (6 - (k + 1))
      case measure => have := HM.out; have := HKM.out; omega
      case rel => exact ⟨k + 1, by have := HKM.out; omega, rfl, by first | rfl | go_num, rfl, HB6.out⟩
    · obtain rfl : k = 6 := by omega
      rw [← HS6.out]
      obtain ⟨s1, s2, s3, s4⟩ := HS.out
      have H6 := Lib.hid (belowOn H5.out H5.out.size HBW.out)
      have KA6 := Lib.hid (KA5.out.keep HBW.out)
      have KN6 := Lib.hid (KN5.out.keep HBW.out)
      clear HR HAC HBW hk6 hk
      go_wp2_with fail
      refine (HP1.out _ (HF.out.keep H6.out)).mono ?_
      rintro e w7 ⟨rfl, hb7⟩
      have H7 := Lib.hid ((belowOn H6.out H6.out.size hb7).alloc (by have := H6.out.size; have := hb7.size; omega) (.cells #[.int .u16 x0, .int .u16 x1, .int .u16 x2, .int .u16 x3, .int .u16 x4, .int .u16 x5, .int .u16 y6, .int .u16 y7] 23))
      have KA7 := Lib.hid ((KA6.out.keep hb7).alloc (.cells #[.int .u16 x0, .int .u16 x1, .int .u16 x2, .int .u16 x3, .int .u16 x4, .int .u16 x5, .int .u16 y6, .int .u16 y7] 23))
      have KN7 := Lib.hid ((KN6.out.keep hb7).alloc (.cells #[.int .u16 x0, .int .u16 x1, .int .u16 x2, .int .u16 x3, .int .u16 x4, .int .u16 x5, .int .u16 y6, .int .u16 y7] 23))
      have KX7 := Lib.hid (Blk.new w7 23 #[.int .u16 x0, .int .u16 x1, .int .u16 x2, .int .u16 x3, .int .u16 x4, .int .u16 x5, .int .u16 y6, .int .u16 y7])
      have e7 : w.heap.size + 2 ≤ w7.heap.size := by have := KN6.out.lt; have := hb7.size; omega
      clear hb7 KA6 KN6
      go_wp2_with fail
      refine (HP2.out _ (HF.out.keep H7.out)).mono ?_
      rintro e w8 ⟨rfl, hb8⟩
      have H8 := Lib.hid ((belowOn H7.out H7.out.size hb8).alloc (by have := H7.out.size; have := hb8.size; omega) (.cells #[.int .u16 0, .int .u16 0, .int .u16 0, .int .u16 0, .int .u16 0, .int .u16 0, .int .u16 y6, .int .u16 y7] 23))
      have KA8 := Lib.hid ((KA7.out.keep hb8).alloc (.cells #[.int .u16 0, .int .u16 0, .int .u16 0, .int .u16 0, .int .u16 0, .int .u16 0, .int .u16 y6, .int .u16 y7] 23))
      have KN8 := Lib.hid ((KN7.out.keep hb8).alloc (.cells #[.int .u16 0, .int .u16 0, .int .u16 0, .int .u16 0, .int .u16 0, .int .u16 0, .int .u16 y6, .int .u16 y7] 23))
      have KX8 := Lib.hid ((KX7.out.keep hb8).alloc (.cells #[.int .u16 0, .int .u16 0, .int .u16 0, .int .u16 0, .int .u16 0, .int .u16 0, .int .u16 y6, .int .u16 y7] 23))
      have KY8 := Lib.hid (Blk.new w8 23 #[.int .u16 0, .int .u16 0, .int .u16 0, .int .u16 0, .int .u16 0, .int .u16 0, .int .u16 y6, .int .u16 y7])
      have e8 : w7.heap.size + 1 ≤ w8.heap.size := by have := hb8.size; simpa using this
      clear hb8 KA7 KN7 KX7
      go_wp2_with fail
      refine (HP3.out _ (HF.out.keep H8.out)).mono ?_
      rintro e w9 ⟨⟨t, x, rfl, _⟩, hb9⟩
      have H9 := Lib.hid (belowOn H8.out H8.out.size hb9)
      have KA9 := Lib.hid (KA8.out.keep hb9)
      have KN9 := Lib.hid (KN8.out.keep hb9)
      have KX9 := Lib.hid (KX8.out.keep hb9)
      have KY9 := Lib.hid (KY8.out.keep hb9)
      clear hb9 KA8 KN8 KX8 KY8 s1 s2 s3 s4 HS
      have dKA90 : ∀ o, (w9.alloc o).cell? ⟨w.heap.size, 0, none⟩ = some (.int .u16 x0) := fun o => (KA9.out.alloc o).cell 0
      have dKA91 : ∀ o, (w9.alloc o).cell? ⟨w.heap.size, 1, none⟩ = some (.int .u16 x1) := fun o => (KA9.out.alloc o).cell 1
      have dKA92 : ∀ o, (w9.alloc o).cell? ⟨w.heap.size, 2, none⟩ = some (.int .u16 x2) := fun o => (KA9.out.alloc o).cell 2
      have dKA93 : ∀ o, (w9.alloc o).cell? ⟨w.heap.size, 3, none⟩ = some (.int .u16 x3) := fun o => (KA9.out.alloc o).cell 3
      have dKA94 : ∀ o, (w9.alloc o).cell? ⟨w.heap.size, 4, none⟩ = some (.int .u16 x4) := fun o => (KA9.out.alloc o).cell 4
      have dKA95 : ∀ o, (w9.alloc o).cell? ⟨w.heap.size, 5, none⟩ = some (.int .u16 x5) := fun o => (KA9.out.alloc o).cell 5
      have dKA96 : ∀ o, (w9.alloc o).cell? ⟨w.heap.size, 6, none⟩ = some (.int .u16 x6) := fun o => (KA9.out.alloc o).cell 6
      have dKA97 : ∀ o, (w9.alloc o).cell? ⟨w.heap.size, 7, none⟩ = some (.int .u16 x7) := fun o => (KA9.out.alloc o).cell 7
      have dKN90 : ∀ o, (w9.alloc o).cell? ⟨w.heap.size + 1, 0, none⟩ = some (.int .u8 n0) := fun o => (KN9.out.alloc o).cell 0
      have dKN91 : ∀ o, (w9.alloc o).cell? ⟨w.heap.size + 1, 1, none⟩ = some (.int .u8 n1) := fun o => (KN9.out.alloc o).cell 1
      have dKN92 : ∀ o, (w9.alloc o).cell? ⟨w.heap.size + 1, 2, none⟩ = some (.int .u8 n2) := fun o => (KN9.out.alloc o).cell 2
      have dKN93 : ∀ o, (w9.alloc o).cell? ⟨w.heap.size + 1, 3, none⟩ = some (.int .u8 n3) := fun o => (KN9.out.alloc o).cell 3
      have dKX90 : ∀ o, (w9.alloc o).cell? ⟨w7.heap.size, 0, none⟩ = some (.int .u16 x0) := fun o => (KX9.out.alloc o).cell 0
      have dKX91 : ∀ o, (w9.alloc o).cell? ⟨w7.heap.size, 1, none⟩ = some (.int .u16 x1) := fun o => (KX9.out.alloc o).cell 1
      have dKX92 : ∀ o, (w9.alloc o).cell? ⟨w7.heap.size, 2, none⟩ = some (.int .u16 x2) := fun o => (KX9.out.alloc o).cell 2
      have dKX93 : ∀ o, (w9.alloc o).cell? ⟨w7.heap.size, 3, none⟩ = some (.int .u16 x3) := fun o => (KX9.out.alloc o).cell 3
      have dKX94 : ∀ o, (w9.alloc o).cell? ⟨w7.heap.size, 4, none⟩ = some (.int .u16 x4) := fun o => (KX9.out.alloc o).cell 4
      have dKX95 : ∀ o, (w9.alloc o).cell? ⟨w7.heap.size, 5, none⟩ = some (.int .u16 x5) := fun o => (KX9.out.alloc o).cell 5
      have dKX96 : ∀ o, (w9.alloc o).cell? ⟨w7.heap.size, 6, none⟩ = some (.int .u16 y6) := fun o => (KX9.out.alloc o).cell 6
      have dKX97 : ∀ o, (w9.alloc o).cell? ⟨w7.heap.size, 7, none⟩ = some (.int .u16 y7) := fun o => (KX9.out.alloc o).cell 7
      have dKY90 : ∀ o, (w9.alloc o).cell? ⟨w8.heap.size, 0, none⟩ = some (.int .u16 0) := fun o => (KY9.out.alloc o).cell 0
      have dKY91 : ∀ o, (w9.alloc o).cell? ⟨w8.heap.size, 1, none⟩ = some (.int .u16 0) := fun o => (KY9.out.alloc o).cell 1
      have dKY92 : ∀ o, (w9.alloc o).cell? ⟨w8.heap.size, 2, none⟩ = some (.int .u16 0) := fun o => (KY9.out.alloc o).cell 2
      have dKY93 : ∀ o, (w9.alloc o).cell? ⟨w8.heap.size, 3, none⟩ = some (.int .u16 0) := fun o => (KY9.out.alloc o).cell 3
      have dKY94 : ∀ o, (w9.alloc o).cell? ⟨w8.heap.size, 4, none⟩ = some (.int .u16 0) := fun o => (KY9.out.alloc o).cell 4
      have dKY95 : ∀ o, (w9.alloc o).cell? ⟨w8.heap.size, 5, none⟩ = some (.int .u16 0) := fun o => (KY9.out.alloc o).cell 5
      have dKY96 : ∀ o, (w9.alloc o).cell? ⟨w8.heap.size, 6, none⟩ = some (.int .u16 y6) := fun o => (KY9.out.alloc o).cell 6
      have dKY97 : ∀ o, (w9.alloc o).cell? ⟨w8.heap.size, 7, none⟩ = some (.int .u16 y7) := fun o => (KY9.out.alloc o).cell 7
      have f6 : ∀ o, (w9.alloc o).frozen? ⟨w.heap.size, 6, none⟩ = false := fun o => (KA9.out.alloc o).frozen 6
      have f7 : ∀ o, (w9.alloc o).frozen? ⟨w.heap.size, 7, none⟩ = false := fun o => (KA9.out.alloc o).frozen 7
      have ne1 : ¬ w.heap.size = w7.heap.size := by omega
      have ne2 : ¬ w.heap.size = w8.heap.size := by omega
      have ne3 : ¬ w7.heap.size = w.heap.size := by omega
      have ne4 : ¬ w8.heap.size = w.heap.size := by omega
      obtain ⟨c0, c1, c2, c3, m0, m1, m2, m3⟩ := HC.out
      obtain ⟨hz1, hz2⟩ := HZ.out
      go_wp2_with fail
      go_ret
      exact ⟨rfl, ((H9.out.alloc H9.out.size _).setCell (Nat.le_refl _) _).setCell (Nat.le_refl _) _⟩
end Go.Proofs.YtodpjdeffhbkpaaGreatDoor
