/- ipsix: four numbers, a piece. -/
import Derived.Test.YtodpjdeffhbkpaaGreatDoorSixHex
import Derived.Test.YtodpjdeffhbkpaaGreatDoorResults
import Derived.Test.YtodpjdeffhbkpaaGreatDoorFourBack
import Derived.Test.YtodpjdeffhbkpaaGreatDoorRowR
import Derived.Shelf.Strings.SlTrimAscii
set_option linter.unusedVariables false
set_option linter.unusedSimpArgs false
set_option maxRecDepth 100000
namespace Go.Proofs.YtodpjdeffhbkpaaGreatDoor
open Go.RowKit Four Six

/-- Block b begins with these texts. -/
def RowS (w : World) (b : Nat) (l : List (List UInt8)) : Prop := ∃ cs, Blk w b 9 cs ∧ ∀ (i : Nat) (x : List UInt8), l[i]? = some x → cs[i]? = some (.string (mkB x))
theorem RowS.keep {w w' : World} {b : Nat} {l : List (List UInt8)} (h : RowS w b l) (hb : Below w.heap.size w w') : RowS w' b l := by
  obtain ⟨cs, h1, h2⟩ := h
  exact ⟨cs, h1.keep hb, h2⟩
theorem RowS.below {w w' : World} {b B : Nat} {l : List (List UInt8)} (h : RowS w b l) (hb : Below B w w') (hB : b < B) : RowS w' b l := by
  obtain ⟨cs, h1, h2⟩ := h
  exact ⟨cs, h1.below hb hB, h2⟩
theorem RowS.cell {w : World} {b : Nat} {l : List (List UInt8)} (h : RowS w b l) {i : Nat} {x : List UInt8} (hx : l[i]? = some x) : w.cell? ⟨b, i, none⟩ = some (.string (mkB x)) := by
  obtain ⟨cs, h1, h2⟩ := h
  rw [h1.cell, h2 i x hx]
theorem RowS.lt {w : World} {b : Nat} {l : List (List UInt8)} (h : RowS w b l) : b < w.heap.size := by
  obtain ⟨cs, h1, _⟩ := h
  exact h1.lt
theorem split_calls (s : ByteArray) (c : UInt8) {w : World} (hF : FW w) (hs : s.size ≤ 1000000) :
    Calls Tryz.prog 29 #[.string s, .string ⟨#[c]⟩] w fun e w' => e = .returned (.slice (some ⟨w.heap.size, 0, none⟩) (splitL c s.data.toList).length (splitL c s.data.toList).length) ∧ RowS w' w.heap.size (splitL c s.data.toList) ∧ Below w.heap.size w w' := by
  obtain ⟨m, hm⟩ := hF.ml
  refine (Tryz.strings_Split s ⟨#[c]⟩ m w (by omega) hm (Nat.le_refl 1)).mono ?_
  rintro e w' ⟨rfl, rfl⟩
  rw [countB_parts, splitB_parts]
  refine ⟨rfl, ⟨_, Blk.new w _ _, fun i x hx => ?_⟩, (Below.refl _ _).alloc (Nat.le_refl _) _⟩
  simp [hx]

/-! ### Four numbers -/
def quadR : Option (Nat × Nat) → Value
  | none => .tuple #[.agg #[.int .u16 0, .int .u16 0], .bool false]
  | some q => .tuple #[.agg #[.int .u16 q.1, .int .u16 q.2], .bool true]
/-- What a quad's loop keeps: the first k numbers. -/
structure QRel (w0 : World) (b : Nat) (L : List (List UInt8)) (k : Nat) (w : World) : Prop where
  ns : ∃ ns : List Nat, ns.length = k ∧ (∀ (i n : Nat), ns[i]? = some n → ∃ p, L[i]? = some p ∧ smallL p = some n) ∧ ∃ cs, Blk w b 98 cs ∧ cs.size = 4 ∧ ∀ (i n : Nat), ns[i]? = some n → cs[i]? = some (.int .u16 n)
  row : RowS w (w0.heap.size + 1) L
  out : Blk w w0.heap.size 65 #[.int .u16 0, .int .u16 0]
  be : Below w0.heap.size w0 w
theorem quadP_none {L : List (List UInt8)} {k : Nat} {p : List UInt8} (hp : L[k]? = some p) (h : smallL p = none) : quadP L = none := by
  unfold quadP
  split
  · rename_i a b c d
    rcases k with _ | _ | _ | _ | k
    · obtain rfl : a = p := by simpa using hp
      rw [h]
    · obtain rfl : b = p := by simpa using hp
      rw [h]
      split <;> simp_all
    · obtain rfl : c = p := by simpa using hp
      rw [h]
      split <;> simp_all
    · obtain rfl : d = p := by simpa using hp
      rw [h]
      split <;> simp_all
    · simp at hp
  · rfl
theorem fig_of {p : List UInt8} {u : Nat} (h : Lib.parseUintB 8 p = .ok u) : u ≤ 255 ∧ ∃ c l, p = c :: l ∧ 48 ≤ c.toNat ∧ c.toNat ≤ 57 := by
  unfold Lib.parseUintB at h
  split at h
  · cases h
  · rename_i hne
    obtain ⟨h1, h2⟩ := pu_bound p 0 _ (by omega) h
    refine ⟨h1, ?_⟩
    cases p with
    | nil => exact absurd rfl hne
    | cons c l =>
      refine ⟨c, l, rfl, ?_⟩
      rw [List.all_cons, Bool.and_eq_true] at h2
      simpa [isFig] using h2.1
theorem QRel.next {w0 w w3 : World} {b : Nat} {L : List (List UInt8)} {k : Nat} {p : List UInt8} {u : Nat} (h : QRel w0 b L k w) (hb : Below w.heap.size w w3) (hp : L[k]? = some p) (hu : smallL p = some u) (hk : k < 4) (hbb : w0.heap.size + 1 < b) :
    QRel w0 b L (k + 1) (w3.setCell ⟨b, k, none⟩ (.int .u16 u)) := by
  obtain ⟨ns, h1, h2, cs, h3, h4, h5⟩ := h.ns
  refine ⟨⟨ns ++ [u], by simp [h1], fun i n hi => ?_, _, (h3.keep hb).set_ k _, by simpa using h4, fun i n hi => ?_⟩, ?_, (h.out.keep hb).far (by show w0.heap.size ≠ b; omega) _, (belowOn h.be h.be.size hb).setCell (by show w0.heap.size ≤ b; omega) _⟩
  · by_cases hik : i < k
    · rw [List.getElem?_append_left (by omega)] at hi
      exact h2 i n hi
    · by_cases he : i = k
      · subst he
        rw [List.getElem?_append_right (by omega), h1, Nat.sub_self] at hi
        obtain rfl : u = n := by simpa using hi
        exact ⟨p, hp, hu⟩
      · have := (List.getElem?_eq_some_iff.1 hi).1
        simp at this
        omega
  · by_cases hik : i < k
    · rw [List.getElem?_append_left (by omega)] at hi
      rw [Array.getElem?_setIfInBounds_ne (by omega)]
      exact h5 i n hi
    · by_cases he : i = k
      · subst he
        rw [List.getElem?_append_right (by omega), h1, Nat.sub_self] at hi
        obtain rfl : u = n := by simpa using hi
        rw [Array.getElem?_setIfInBounds_self_of_lt (by omega)]
      · have := (List.getElem?_eq_some_iff.1 hi).1
        simp at this
        omega
  · obtain ⟨cs2, r1, r2⟩ := h.row
    exact ⟨cs2, (r1.keep hb).far (by show w0.heap.size + 1 ≠ b; omega) _, r2⟩
theorem QRel.start {w0 w1 : World} {L : List (List UInt8)} (hR : RowS w1 (w0.heap.size + 1) L) (hO : Blk w1 w0.heap.size 65 #[.int .u16 0, .int .u16 0]) (hb : Below w0.heap.size w0 w1) :
    QRel w0 w1.heap.size L 0 (w1.alloc (.cells #[.int .u16 0, .int .u16 0, .int .u16 0, .int .u16 0] 98)) :=
  ⟨⟨[], rfl, fun i n h => by simp at h, _, Blk.new w1 _ _, rfl, fun i n h => by simp at h⟩, hR.keep ((Below.refl _ _).alloc (Nat.le_refl _) _), hO.alloc _, hb.alloc hb.size _⟩
theorem QRel.cell {w0 w : World} {b : Nat} {L : List (List UInt8)} {k : Nat} (h : QRel w0 b L k w) (i : Nat) (hi : i < 4) : ∃ x, w.cell? ⟨b, i, none⟩ = some x := by
  obtain ⟨ns, h1, h2, cs, h3, h4, h5⟩ := h.ns
  exact ⟨cs[i]'(by omega), by rw [h3.cell, Array.getElem?_eq_getElem (by omega)]⟩
theorem QRel.frozen {w0 w : World} {b : Nat} {L : List (List UInt8)} {k : Nat} (h : QRel w0 b L k w) (i : Nat) : w.frozen? ⟨b, i, none⟩ = false := by
  obtain ⟨ns, h1, h2, cs, h3, _⟩ := h.ns
  exact h3.frozen i
theorem QRel.fin {w0 w : World} {b : Nat} {L : List (List UInt8)} (h : QRel w0 b L 4 w) (hl : L.length = 4) : ∃ x y z u : Nat, quadP L = some (256 * x + y, 256 * z + u) ∧ x ≤ 255 ∧ y ≤ 255 ∧ z ≤ 255 ∧ u ≤ 255 ∧ w.cell? ⟨b, 0, none⟩ = some (.int .u16 x) ∧ w.cell? ⟨b, 1, none⟩ = some (.int .u16 y) ∧ w.cell? ⟨b, 2, none⟩ = some (.int .u16 z) ∧ w.cell? ⟨b, 3, none⟩ = some (.int .u16 u) := by
  obtain ⟨ns, h1, h2, cs, h3, h4, h5⟩ := h.ns
  match ns, h1 with
  | [x, y, z, u], _ =>
    match L, hl with
    | [a, b', c, d], _ =>
      have q0 := h2 0 x rfl
      have q1 := h2 1 y rfl
      have q2 := h2 2 z rfl
      have q3 := h2 3 u rfl
      simp at q0 q1 q2 q3
      refine ⟨x, y, z, u, ?_, (small_ok q0).1, (small_ok q1).1, (small_ok q2).1, (small_ok q3).1, ?_, ?_, ?_, ?_⟩
      · simp only [quadP, q0, q1, q2, q3]
      all_goals rw [h3.cell]
      · exact h5 0 x rfl
      · exact h5 1 y rfl
      · exact h5 2 z rfl
      · exact h5 3 u rfl
theorem or_quad : ∀ y : Nat, y < 256 → ∀ x : Nat, x < 256 → bits .or .u16 ((256 * x : Nat) : Int) (y : Int) = ((256 * x + y : Nat) : Int) := by
  intro y hy x hx
  have e : bits .or .u16 ((256 * x : Nat) : Int) (y : Int) = ((256 * x ||| y : Nat) : Int) := by
    have h1 : (BitVec.ofInt 16 ((256 * x : Nat) : Int)).toNat = 256 * x := by rw [BitVec.ofInt_natCast, BitVec.toNat_ofNat]; exact Nat.mod_eq_of_lt (by omega)
    have h2 : (BitVec.ofInt 16 (y : Int)).toNat = y := by rw [BitVec.ofInt_natCast, BitVec.toNat_ofNat]; exact Nat.mod_eq_of_lt (by omega)
    have h3 : 256 * x ||| y < 2 ^ 16 := Nat.or_lt_two_pow (by omega) (by omega)
    show IntKind.u16.wrap ((BitVec.ofInt 16 ((256 * x : Nat) : Int) ||| BitVec.ofInt 16 (y : Int)).toNat : Int) = _
    rw [BitVec.toNat_or, h1, h2, IntKind.wrap_u16]
    omega
  rw [e]
  congr 1
  have := Nat.two_pow_add_eq_or_of_lt (i := 8) (by omega : y < 2 ^ 8) x
  rw [show (256 : Nat) = 2 ^ 8 from rfl, this]

set_option maxHeartbeats 4000000 in
theorem quad_calls (s : ByteArray) {w : World} (hF : FW w) (hs : s.size ≤ 1000) :
    Calls Tryz.prog 30 #[.string s] w fun e w' => e = .returned (quadR (quadL s.data.toList)) ∧ Below w.heap.size w w' := by
  have HC := Lib.hid (split_calls s 46 (hF.keep ((Below.refl _ _).alloc (Nat.le_refl _) (.cells #[.int .u16 0, .int .u16 0] 65))) (by omega))
  have hps : ∀ p ∈ splitL 46 s.data.toList, p.length ≤ 1000 := fun p hp => by have := splitL_part 46 _ p hp; have : s.data.toList.length = s.size := by simp
                                                                              omega
  have HD := Lib.hid (show quadL s.data.toList = quadP (splitL 46 s.data.toList) from rfl)
  have hl : (splitL 46 s.data.toList).length ≤ 1001 := by
    have := splitL_length 46 s.data.toList
    have : s.data.toList.length = s.size := by simp
    omega
  generalize quadL s.data.toList = R at HD ⊢
  generalize splitL 46 s.data.toList = L at HC HD hps hl
  have HF := Lib.hid hF
  clear hF
  go_enter Tryz.func30, Tryz.ntmps30
  go_wp2_with fail
  refine HC.out.mono ?_
  rintro e w1 ⟨rfl, hR, hb⟩
  have hsz : (w.alloc (.cells #[.int .u16 0, .int .u16 0] 65)).heap.size = w.heap.size + 1 := by simp
  have HR := Lib.hid (show RowS w1 (w.heap.size + 1) L from hsz ▸ hR)
  have HB := Lib.hid (belowOn ((Below.refl w.heap.size w).alloc (Nat.le_refl _) _) (by simp) hb)
  have HO := Lib.hid (Blk.keep (Blk.new w 65 #[.int .u16 0, .int .u16 0]) hb)
  clear hR hb HC hsz
  have hc0 : ∀ o, (w1.alloc o).cell? ⟨w.heap.size, 0, none⟩ = some (.int .u16 0) := fun o => (HO.out.alloc o).cell 0
  have hc1 : ∀ o, (w1.alloc o).cell? ⟨w.heap.size, 1, none⟩ = some (.int .u16 0) := fun o => (HO.out.alloc o).cell 1
  have hf0 : ∀ o i, (w1.alloc o).frozen? ⟨w.heap.size, i, none⟩ = false := fun o i => (HO.out.alloc o).frozen i
  by_cases h4 : L.length = 4
  · rw [h4]
    clear hc0 hc1 hf0
    go_wp2_with fail
    go_loopg [18, 6, 7, 8, 9] 4 (fun m v18 v6 v7 v8 v9 w' => Hid (∃ (k : Nat), k ≤ 4 ∧ v18 = .int .i64 k ∧ m = 4 - k ∧ QRel w w1.heap.size L k w'))
    case atStart => exact ⟨0, by omega, rfl, rfl, QRel.start HR.out (HO.out) HB.out⟩
    case round =>
      obtain ⟨k, hk, rfl, hm, hQ⟩ := hrel.out
      clear hrel
      have HM := Lib.hid hm
      have HQ := Lib.hid hQ
      clear hm hQ
      have hbb : w.heap.size + 1 < w1.heap.size := HR.out.lt
      by_cases hk4 : k < 4
      · obtain ⟨p, hp⟩ : ∃ p, L[k]? = some p := ⟨L[k]'(by omega), List.getElem?_eq_getElem _⟩
        have hrow := HQ.out.row.cell hp
        have HI := Lib.hid (decU_calls (mkB p) (HF.out.keep HQ.out.be) (by rw [mkB_size]; have := hps p (List.mem_of_getElem? hp); omega))
        go_wp2_with fail
        refine HI.out.mono ?_
        rintro e w3 ⟨hI, hb3⟩
        have HB3 := Lib.hid hb3
        rw [mkB_data] at hI
        clear HI hrow
        have hc0 : w3.cell? ⟨w.heap.size, 0, none⟩ = some (.int .u16 0) := (HQ.out.out.keep hb3).cell 0
        have hc1 : w3.cell? ⟨w.heap.size, 1, none⟩ = some (.int .u16 0) := (HQ.out.out.keep hb3).cell 1
        have hf0 : ∀ i, w3.frozen? ⟨w.heap.size, i, none⟩ = false := fun i => (HQ.out.out.keep hb3).frozen i
        rcases hI with ⟨u, hu, rfl⟩ | ⟨hno, m, t, x, rfl⟩
        · obtain ⟨hu255, c, l, hpc, c48, c57⟩ := fig_of hu
          have hq0 : 0 < (mkB p).size := by rw [mkB_size, hpc]; simp
          have hqv : (mkB p)[0]'hq0 = c := by subst hpc; rfl
          have hqs : (mkB p).size = p.length := mkB_size p
          have hps2 : p.length ≤ 1000 := hps p (List.mem_of_getElem? hp)
          have i48 : ¬ (((mkB p)[0]'hq0).toNat : Int) < 48 := by rw [hqv]; omega
          have i57 : ¬ (57 < (((mkB p)[0]'hq0).toNat : Int)) := by rw [hqv]; omega
          by_cases hbad : 1 < p.length ∧ p.head? = some 48
          · have HN := Lib.hid (show R = none by rw [HD.out]; exact quadP_none hp (by unfold smallL; rw [hu]; simp only; rw [if_pos hbad]))
            have i1 : 1 < ((mkB p).size : Int) := by rw [hqs]; omega
            have i2 : ((((mkB p)[0]'hq0).toNat : Int) == 48) = true := by rw [hqv]; rw [hpc] at hbad; have : c = 48 := by simpa using hbad.2
                                                                          rw [this]; rfl
            clear hb3 hqv hpc c48 c57 hu hqs hbad
            go_wp2_with fail
            refine bodyPost_ret (results_cell_row2 rfl _ _ w.heap.size 65 #[.int .u16 0, .int .u16 0] (0, 0) _ rfl (((HQ.out.out.keep HB3.out).set_ 0 _).set_ 1 _) Tryz.underlying65 rfl (by kernel_rfl)) rfl ?_
            exact ⟨by rw [HN.out]; rfl, (((belowOn HQ.out.be HQ.out.be.size HB3.out).setCell (Nat.le_refl _) _).setCell (Nat.le_refl _) _)⟩
          · have hsm : smallL p = some u := by unfold smallL; rw [hu]; simp only; rw [if_neg hbad]
            have HN := Lib.hid (HQ.out.next hb3 hp hsm hk4 hbb)
            obtain ⟨x0, hx0⟩ := QRel.cell HQ.out k hk4
            have hx : w3.cell? ⟨w1.heap.size, k, none⟩ = some x0 := (hb3.cell (p := ⟨w1.heap.size, k, none⟩) (World.block_lt_of_cell? _ _ hx0)).trans hx0
            obtain ⟨ns, n1, n2, cs, n3, n4, n5⟩ := HQ.out.ns
            have hfx : w3.frozen? ⟨w1.heap.size, k, none⟩ = false := (n3.keep hb3).frozen k
            have hu16 : IntKind.u16.wrap (u : Int) = (u : Int) := by rw [IntKind.wrap_u16]; omega
            clear n1 n2 n3 n4 n5
            by_cases h1 : 1 < p.length
            · have i1 : 1 < ((mkB p).size : Int) := by rw [hqs]; omega
              have i2 : ((((mkB p)[0]'hq0).toNat : Int) == 48) = false := by
                rw [hqv]
                have : c ≠ 48 := fun e => hbad ⟨h1, by rw [hpc, e]; rfl⟩
                have : c.toNat ≠ 48 := fun e => this (UInt8.toNat_inj.1 e)
                simp
                omega
              clear hb3 hqv hpc c48 c57 hu hqs hbad hc0 hc1 hf0
              go_wp2_with fail
              go_roundg (4 - (k + 1))
              case measure => have := HM.out; omega
              case rel => exact ⟨k + 1, by omega, by first | rfl | go_num, rfl, HN.out⟩
            · have i1 : ¬ 1 < ((mkB p).size : Int) := by rw [hqs]; omega
              clear hb3 hqv hpc c48 c57 hu hqs hbad hc0 hc1 hf0
              go_wp2_with fail
              go_roundg (4 - (k + 1))
              case measure => have := HM.out; omega
              case rel => exact ⟨k + 1, by omega, by first | rfl | go_num, rfl, HN.out⟩
        · have HN := Lib.hid (show R = none by
            rw [HD.out]
            exact quadP_none hp (by unfold smallL; split <;> simp_all))
          clear hb3 hno
          go_wp2_with fail
          refine bodyPost_ret (results_cell_row2 rfl _ _ w.heap.size 65 #[.int .u16 0, .int .u16 0] (0, 0) _ rfl (((HQ.out.out.keep HB3.out).set_ 0 _).set_ 1 _) Tryz.underlying65 rfl (by kernel_rfl)) rfl ?_
          exact ⟨by rw [HN.out]; rfl, (((belowOn HQ.out.be HQ.out.be.size HB3.out).setCell (Nat.le_refl _) _).setCell (Nat.le_refl _) _)⟩
      · obtain rfl : k = 4 := by omega
        obtain ⟨x, y, z, u, hv, x1, y1, z1, u1, hx, hy, hz, hu⟩ := QRel.fin HQ.out h4
        have hc0 : wr.cell? ⟨w.heap.size, 0, none⟩ = some (.int .u16 0) := HQ.out.out.cell 0
        have hc1 : wr.cell? ⟨w.heap.size, 1, none⟩ = some (.int .u16 0) := HQ.out.out.cell 1
        have hf0 : ∀ i, wr.frozen? ⟨w.heap.size, i, none⟩ = false := fun i => HQ.out.out.frozen i
        have HN := Lib.hid (show R = some (256 * x + y, 256 * z + u) by rw [HD.out, hv])
        have e1 := or_quad y (by omega) x (by omega)
        have e2 := or_quad u (by omega) z (by omega)
        clear hv
        go_wp2_with fail
        have g1 : (x : Int) * 256 = ((256 * x : Nat) : Int) := by omega
        have g2 : (z : Int) * 256 = ((256 * z : Nat) : Int) := by omega
        rw [g1, g2, e1, e2]
        refine bodyPost_ret (results_cell_row2 rfl _ _ w.heap.size 65 #[.int .u16 ((256 * x + y : Nat) : Int), .int .u16 ((256 * z + u : Nat) : Int)] (0, 0) _ rfl ((HQ.out.out.set_ 0 _).set_ 1 _) Tryz.underlying65 rfl (by kernel_rfl)) rfl ?_
        exact ⟨by rw [HN.out]; rfl, ((HQ.out.be.setCell (Nat.le_refl _) _).setCell (Nat.le_refl _) _)⟩
  · have HN := Lib.hid (show R = none by rw [HD.out]; unfold quadP; split <;> simp_all)
    go_wp2_with fail
    refine bodyPost_ret (results_cell_row2 rfl _ _ w.heap.size 65 #[.int .u16 0, .int .u16 0] (0, 0) _ rfl (((HO.out.alloc _).set_ 0 _).set_ 1 _) Tryz.underlying65 rfl (by kernel_rfl)) rfl ?_
    exact ⟨by rw [HN.out]; rfl, (((HB.out.alloc HB.out.size _).setCell (Nat.le_refl _) _).setCell (Nat.le_refl _) _)⟩
end Go.Proofs.YtodpjdeffhbkpaaGreatDoor
