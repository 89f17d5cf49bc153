/- ipsix.Text. -/
import Derived.Test.YtodpjdeffhbkpaaGreatDoorSixJoined
import Derived.Test.YtodpjdeffhbkpaaGreatDoorSixLong
import Derived.Deep.RegionHeld3
set_option linter.unusedVariables false
set_option linter.unusedSimpArgs false
set_option maxRecDepth 100000
namespace Go.Proofs.YtodpjdeffhbkpaaGreatDoor
open Go.RowKit Four Six

theorem size_u16 (W : World) : (sizeOf 22).run Tryz.prog W = .ok 1 W := by
  obtain ⟨i, hi, hz⟩ := Option.map_eq_some_iff.1 info_u16
  simp only [Prod.mk.injEq] at hz
  simp [sizeOf, typeInfo, hi, hz.2.1]
/-- A box of eight, cut ahead and behind. -/
theorem cut_head (g p : Nat) (hp : p ≤ 8) : ∃ c, p ≤ c ∧ ∀ W, (Instr.sliceAt 23 (.pointer (some ⟨g, 0, none⟩)) none (some (.int .i64 (p : Int))) none).run Tryz.prog W = .ok (.slice (some ⟨g, 0, none⟩) p c) W := by
  refine ⟨8, hp, fun W => ?_⟩
  have hal : Tryz.prog.arrayLen 23 = 8 := by kernel_rfl
  have hel : Tryz.prog.elem 23 = 22 := by kernel_rfl
  rw [run_sliceAt_array_h W 23 ⟨g, 0, none⟩ (by rw [hal, hel]; exact Tryz.underlying23) .i64 (p : Int) (by omega) (by rw [hal]; omega), hal, hel, size_u16]
  simp only [Result.andThen_ok, slicedAt]
  simp [Addr.add]
theorem cut_tail (g p : Nat) (hp : p ≤ 8) : ∃ o c, 8 - p ≤ c ∧ (p < 8 → o = p) ∧ ∀ W, (Instr.sliceAt 23 (.pointer (some ⟨g, 0, none⟩)) (some (.int .i64 (p : Int))) none none).run Tryz.prog W = .ok (.slice (some ⟨g, o, none⟩) (8 - p) c) W := by
  refine ⟨if p = 8 then 0 else p, 8 - p, Nat.le_refl _, fun h => if_neg (by omega), fun W => ?_⟩
  have hal : Tryz.prog.arrayLen 23 = 8 := by kernel_rfl
  have hel : Tryz.prog.elem 23 = 22 := by kernel_rfl
  rw [run_sliceAt_array_l W 23 ⟨g, 0, none⟩ (by rw [hal, hel]; exact Tryz.underlying23) .i64 (p : Int) (by omega) (by rw [hal]; omega), hal, hel, size_u16]
  simp only [Result.andThen_ok, slicedAt, Int.toNat_natCast]
  by_cases h0 : p = 8
  · subst h0; simp
  · rw [if_neg h0, if_neg (by omega)]
    unfold Addr.add
    simp
    omega
theorem eight_of {a : List Nat} (h8 : a.length = 8) : ∃ x0 x1 x2 x3 x4 x5 x6 x7, a = [x0, x1, x2, x3, x4, x5, x6, x7] := by
  match a, h8 with
  | [x0, x1, x2, x3, x4, x5, x6, x7], _ => exact ⟨x0, x1, x2, x3, x4, x5, x6, x7, rfl⟩
theorem cells_eight (x0 x1 x2 x3 x4 x5 x6 x7 : Nat) : (cellsA [x0, x1, x2, x3, x4, x5, x6, x7]).toArray = #[.int .u16 x0, .int .u16 x1, .int .u16 x2, .int .u16 x3, .int .u16 x4, .int .u16 x5, .int .u16 x6, .int .u16 x7] := by
  simp only [cellsA, List.map_cons, List.map_nil]
theorem row_part {w : World} {g o : Nat} {a l : List Nat} {i : Nat} (h : Blk w g 23 (cellsA a).toArray) (ho : l ≠ [] → o = i) (hl : ∀ (j n : Nat), l[j]? = some n → a[i + j]? = some n) : RowAt numC 1 w (some ⟨g, o, none⟩) l := by
  intro j n hn
  have hne : l ≠ [] := by rintro rfl; simp at hn
  refine ⟨g, o, rfl, fun k u hu => ?_⟩
  have hk : k < 1 := (List.getElem?_eq_some_iff.1 hu).1
  obtain rfl : k = 0 := by omega
  obtain rfl : Value.int .u16 (n : Int) = u := by simpa [numC] using hu
  rw [h.cell, ho hne]
  have := hl j n hn
  simp [cellsA, this]
set_option maxHeartbeats 8000000 in
theorem text_calls (a : List Nat) (h8 : a.length = 8) (ha : ∀ n ∈ a, n < 65536) {w : World} (hF : FW w) :
    Calls Tryz.prog 14 #[.agg (cellsA a).toArray] w fun e w' => e = .returned (.string (mkB (text6 a))) ∧ Below w.heap.size w w' := by
  obtain ⟨W, hW⟩ : ∃ W, W = w.alloc (.cells (cellsA a).toArray 23) := ⟨_, rfl⟩
  have hb0 : Below w.heap.size w W := by rw [hW]; exact (Below.refl _ _).alloc (Nat.le_refl _) _
  have HB := Lib.hid hb0
  have HK := Lib.hid (show Blk W w.heap.size 23 (cellsA a).toArray by rw [hW]; exact Blk.new w _ _)
  have HLC := Lib.hid (longest_calls a h8 W)
  have HF := Lib.hid (hF.keep hb0)
  have hlok := longest_ok a
  have HT := Lib.hid (show text6 a = if (longest a).2 < 2 then joined a else joined (a.take (longest a).1) ++ [58, 58] ++ joined (a.drop ((longest a).1 + (longest a).2)) by unfold text6; with_reducible rfl)
  have HA := Lib.hid ha
  clear hF hb0 ha
  obtain ⟨T, hT⟩ : ∃ T, T = text6 a := ⟨_, rfl⟩
  rw [← hT] at HT ⊢
  clear hT
  generalize longest a = b at HLC hlok HT
  obtain ⟨p, m⟩ := b
  simp only at HLC hlok HT
  have HX := Lib.hid h8
  have HLOK := Lib.hid hlok
  clear hlok
  obtain ⟨x0, x1, x2, x3, x4, x5, x6, x7, hxs⟩ := eight_of h8
  have hcc : (cellsA a).toArray = #[.int .u16 x0, .int .u16 x1, .int .u16 x2, .int .u16 x3, .int .u16 x4, .int .u16 x5, .int .u16 x6, .int .u16 x7] := by rw [hxs]; exact cells_eight _ _ _ _ _ _ _ _
  have hagg : Value.agg (cellsA a).toArray = .agg #[.int .u16 x0, .int .u16 x1, .int .u16 x2, .int .u16 x3, .int .u16 x4, .int .u16 x5, .int .u16 x6, .int .u16 x7] := by rw [hcc]
  have HW2 := Lib.hid (show w.alloc (.cells #[.int .u16 x0, .int .u16 x1, .int .u16 x2, .int .u16 x3, .int .u16 x4, .int .u16 x5, .int .u16 x6, .int .u16 x7] 23) = W by rw [hW, hcc])
  rw [hagg] at HLC
  have HAG := Lib.hid hagg
  have HXS := Lib.hid hcc
  clear hW h8 hxs hagg hcc
  rw [HAG.out]
  go_enter Tryz.func14, Tryz.ntmps14
  go_wp2_with fail
  rw [HW2.out]
  refine HLC.out.mono ?_
  rintro e w1 ⟨rfl, hb1⟩
  have HB1 := Lib.hid (belowOn HB.out HB.out.size hb1)
  have HK1 := Lib.hid (HK.out.keep hb1)
  have HF1 := Lib.hid (HF.out.keep hb1)
  clear hb1 HLC HK HF HW2
  by_cases hm : m < 2
  · have hm' : (m : Int) < 2 := by omega
    have HR := Lib.hid (show T = joined a by rw [HT.out, if_pos hm])
    have HJ := Lib.hid (joined_calls (some ⟨w.heap.size, 0, none⟩) 8 a (by rw [HX.out]; omega) HA.out HF1.out (by rw [HX.out]; omega) (row_part HK1.out (i := 0) (fun _ => rfl) (fun j n hn => by rw [Nat.zero_add]; exact hn)))
    rw [HX.out] at HJ
    go_wp2_with fail
    refine HJ.out.mono ?_
    rintro e w2 ⟨rfl, hb2⟩
    have HB2 := Lib.hid (belowOn HB1.out HB1.out.size hb2)
    clear hb2
    go_wp2_with fail
    go_ret
    rw [HR.out]
    exact ⟨rfl, HB2.out⟩
  · have hm' : ¬ (m : Int) < 2 := by omega
    have HR := Lib.hid (show T = joined (a.take p) ++ [58, 58] ++ joined (a.drop (p + m)) by rw [HT.out, if_neg hm])
    obtain ⟨_, hpm⟩ := HLOK.out hm
    rw [HX.out] at hpm
    obtain ⟨c1, hc1, hs1⟩ := cut_head w.heap.size p (by omega)
    obtain ⟨o2, c2, hc2, ho2, hs2⟩ := cut_tail w.heap.size (p + m) hpm
    have l1 : (a.take p).length = p := by rw [List.length_take, HX.out]; omega
    have l2 : (a.drop (p + m)).length = 8 - (p + m) := by rw [List.length_drop, HX.out]
    have HJ1 := Lib.hid (fun (W' : World) (hb : Below w1.heap.size w1 W') => joined_calls (some ⟨w.heap.size, 0, none⟩) c1 (a.take p) (by omega) (fun n hn => HA.out n (List.mem_of_mem_take hn)) (HF1.out.keep hb) (by omega) (row_part (HK1.out.keep hb) (i := 0) (fun _ => rfl) (fun j n hn => by
      rw [Nat.zero_add]
      have hj := (List.getElem?_eq_some_iff.1 hn).1
      rw [List.getElem?_take_of_lt (by omega)] at hn
      exact hn)))
    have HJ2 := Lib.hid (fun (W' : World) (hb : Below w1.heap.size w1 W') => joined_calls (some ⟨w.heap.size, o2, none⟩) c2 (a.drop (p + m)) (by omega) (fun n hn => HA.out n (List.mem_of_mem_drop hn)) (HF1.out.keep hb) (by omega) (row_part (HK1.out.keep hb) (i := p + m) (fun hne => ho2 (by have := List.length_pos_iff.2 hne; omega)) (fun j n hn => by
      rw [List.getElem?_drop] at hn
      exact hn)))
    rw [l1] at HJ1
    rw [l2] at HJ2
    have z1 := joined_small (l := a.take p) (by omega) (fun n hn => HA.out n (List.mem_of_mem_take hn))
    have z2 := joined_small (l := a.drop (p + m)) (by omega) (fun n hn => HA.out n (List.mem_of_mem_drop hn))
    obtain ⟨U1, hU1⟩ : ∃ U, U = mkB (joined (a.take p)) := ⟨_, rfl⟩
    obtain ⟨U2, hU2⟩ : ∃ U, U = mkB (joined (a.drop (p + m))) := ⟨_, rfl⟩
    have q1 : U1.size ≤ 40 := by rw [hU1, mkB_size]; omega
    have q2 : U2.size ≤ 40 := by rw [hU2, mkB_size]; omega
    have HE := Lib.hid (show (U1 ++ (⟨#[58, 58]⟩ : ByteArray)) ++ U2 = mkB T by
      rw [HR.out, hU1, hU2]
      apply ByteArray.ext
      simp [mkB, ByteArray.data_append])
    rw [← hU1] at HJ1
    rw [← hU2] at HJ2
    obtain ⟨S1, hS1⟩ : ∃ S, S = Value.slice (some ⟨w.heap.size, 0, none⟩) p c1 := ⟨_, rfl⟩
    obtain ⟨S2, hS2⟩ : ∃ S, S = Value.slice (some ⟨w.heap.size, o2, none⟩) (8 - (p + m)) c2 := ⟨_, rfl⟩
    rw [← hS1] at hs1 HJ1
    rw [← hS2] at hs2 HJ2
    have e64 : (((p + m : Nat) : Int)) = IntKind.i64.wrap ((p : Int) + (m : Int)) := by rw [IntKind.wrap_i64]; omega
    rw [e64] at hs2
    have qs : (U1 ++ (⟨#[58, 58]⟩ : ByteArray)).size ≤ 42 := by
      have : (⟨#[58, 58]⟩ : ByteArray).size = 2 := rfl
      rw [ByteArray.size_append]
      omega
    have a1 : ∀ w, (Op.stringOp .add U1 ⟨#[58, 58]⟩).run Tryz.prog w = .ok (.string (U1 ++ (⟨#[58, 58]⟩ : ByteArray))) w := fun w => run_string_add_sum w _ _ (by rw [show (⟨#[58, 58]⟩ : ByteArray).size = 2 from rfl]; omega)
    obtain ⟨V, hV⟩ : ∃ V, V = U1 ++ (⟨#[58, 58]⟩ : ByteArray) := ⟨_, rfl⟩
    rw [← hV] at a1 HE qs
    have a2 : ∀ w, (Op.stringOp .add V U2).run Tryz.prog w = .ok (.string (V ++ U2)) w := fun w => run_string_add_sum w _ _ (by omega)
    have HB0 := Lib.hid (show Below w1.heap.size w1 w1.drew from (Below.refl _ _).drew)
    have c0 := HK1.out.cell 0
    rw [HXS.out] at c0
    have c0 : w1.cell? ⟨w.heap.size, 0, none⟩ = some (.int .u16 x0) := c0
    have HC0 := Lib.hid c0
    clear hU1 hU2 hS1 hS2 hV l1 l2 e64 ho2 hc1 hc2 z1 z2 q1 q2 qs HA HLOK HT HR HF1 HK1 HX HAG HXS hpm hm
    go_wp2_with fail
    go_region_held3 (fun w' => w'.cell? ⟨w.heap.size, 0, none⟩ = some (.int .u16 x0))
      (first | exact c0 | exact c01 | exact c02 | go_keep)
      (first
        | (go_at_call_of 24 S1; refine (HJ1.out _ HB0.out).mono ?_; rintro e w3 ⟨rfl, hb⟩; have HC1 := Lib.hid (belowOn HB0.out HB0.out.size hb); have c01 := (HC1.out.cell (p := ⟨w.heap.size, 0, none⟩) (World.block_lt_of_cell? _ _ HC0.out)).trans HC0.out; clear hb)
        | (go_at_call_of 24 S2; refine (HJ2.out _ HC1.out).mono ?_; rintro e w4 ⟨rfl, hb⟩; have HD := Lib.hid (belowOn HC1.out HC1.out.size hb); have c02 := (HD.out.cell (p := ⟨w.heap.size, 0, none⟩) (World.block_lt_of_cell? _ _ HC0.out)).trans HC0.out; clear hb))
    go_wp2_with fail
    go_ret
    rw [HE.out]
    exact ⟨rfl, belowOn HB1.out HB1.out.size HD.out⟩
end Go.Proofs.YtodpjdeffhbkpaaGreatDoor
