/- ipsix: four numbers, a piece. ipsix: a piece; pieces between colons. ipsix: pieces between colons. ipsix.Parse. -/
import Derived.Test.YtodpjdeffhbkpaaGreatDoorSixHex
import Derived.Test.YtodpjdeffhbkpaaGreatDoorResults
import Derived.Test.YtodpjdeffhbkpaaGreatDoorFourBack
import Derived.Test.YtodpjdeffhbkpaaGreatDoorRowR
import Derived.Shelf.Strings.SlTrimAscii
import Derived.RegionTactic
import Derived.ChangeAlike
import Derived.BigRegion
import Derived.Test.YtodpjdeffhbkpaaGreatDoorErr
import Derived.Laws.CopyOwn
set_option linter.unusedVariables false
set_option linter.unusedSimpArgs false
set_option maxRecDepth 100000
namespace Go.Proofs.YtodpjdeffhbkpaaGreatDoor
open Go.RowKit Four Six

/-- Block b begins with these texts. -/
def RowS (w : World) (b : Nat) (l : List (List UInt8)) : Prop := ∃ cs, Blk w b 9 cs ∧ ∀ (i : Nat) (x : List UInt8), l[i]? = some x → cs[i]? = some (.string (mkB x))
theorem RowS.keep {w w' : World} {b : Nat} {l : List (List UInt8)} (h : RowS w b l) (hb : Below w.heap.size w w') : RowS w' b l := by
  obtain ⟨cs, h1, h2⟩ := h
  exact ⟨cs, h1.keep hb, h2⟩
theorem RowS.below {w w' : World} {b B : Nat} {l : List (List UInt8)} (h : RowS w b l) (hb : Below B w w') (hB : b < B) : RowS w' b l := by
  obtain ⟨cs, h1, h2⟩ := h
  exact ⟨cs, h1.below hb hB, h2⟩
theorem RowS.cell {w : World} {b : Nat} {l : List (List UInt8)} (h : RowS w b l) {i : Nat} {x : List UInt8} (hx : l[i]? = some x) : w.cell? ⟨b, i, none⟩ = some (.string (mkB x)) := by
  obtain ⟨cs, h1, h2⟩ := h
  rw [h1.cell, h2 i x hx]
theorem RowS.lt {w : World} {b : Nat} {l : List (List UInt8)} (h : RowS w b l) : b < w.heap.size := by
  obtain ⟨cs, h1, _⟩ := h
  exact h1.lt
theorem split_calls (s : ByteArray) (c : UInt8) {w : World} (hF : FW w) (hs : s.size ≤ 1000000) :
    Calls Tryz.prog 29 #[.string s, .string ⟨#[c]⟩] w fun e w' => e = .returned (.slice (some ⟨w.heap.size, 0, none⟩) (splitL c s.data.toList).length (splitL c s.data.toList).length) ∧ RowS w' w.heap.size (splitL c s.data.toList) ∧ Below w.heap.size w w' := by
  obtain ⟨m, hm⟩ := hF.ml
  refine (Tryz.strings_Split s ⟨#[c]⟩ m w (by omega) hm (Nat.le_refl 1)).mono ?_
  rintro e w' ⟨rfl, rfl⟩
  rw [countB_parts, splitB_parts]
  refine ⟨rfl, ⟨_, Blk.new w _ _, fun i x hx => ?_⟩, (Below.refl _ _).alloc (Nat.le_refl _) _⟩
  simp [hx]

/-! ### Four numbers -/
def quadR : Option (Nat × Nat) → Value
  | none => .tuple #[.agg #[.int .u16 0, .int .u16 0], .bool false]
  | some q => .tuple #[.agg #[.int .u16 q.1, .int .u16 q.2], .bool true]
/-- What a quad's loop keeps: the first k numbers. -/
structure QRel (w0 : World) (b : Nat) (L : List (List UInt8)) (k : Nat) (w : World) : Prop where
  ns : ∃ ns : List Nat, ns.length = k ∧ (∀ (i n : Nat), ns[i]? = some n → ∃ p, L[i]? = some p ∧ smallL p = some n) ∧ ∃ cs, Blk w b 98 cs ∧ cs.size = 4 ∧ ∀ (i n : Nat), ns[i]? = some n → cs[i]? = some (.int .u16 n)
  row : RowS w (w0.heap.size + 1) L
  out : Blk w w0.heap.size 65 #[.int .u16 0, .int .u16 0]
  be : Below w0.heap.size w0 w
theorem quadP_none {L : List (List UInt8)} {k : Nat} {p : List UInt8} (hp : L[k]? = some p) (h : smallL p = none) : quadP L = none := by
  unfold quadP
  split
  · rename_i a b c d
    rcases k with _ | _ | _ | _ | k
    · obtain rfl : a = p := by simpa using hp
      rw [h]
    · obtain rfl : b = p := by simpa using hp
      rw [h]
      split <;> simp_all
    · obtain rfl : c = p := by simpa using hp
      rw [h]
      split <;> simp_all
    · obtain rfl : d = p := by simpa using hp
      rw [h]
      split <;> simp_all
    · simp at hp
  · rfl
theorem fig_of {p : List UInt8} {u : Nat} (h : Lib.parseUintB 8 p = .ok u) : u ≤ 255 ∧ ∃ c l, p = c :: l ∧ 48 ≤ c.toNat ∧ c.toNat ≤ 57 := by
  unfold Lib.parseUintB at h
  split at h
  · cases h
  · rename_i hne
    obtain ⟨h1, h2⟩ := pu_bound p 0 _ (by omega) h
    refine ⟨h1, ?_⟩
    cases p with
    | nil => exact absurd rfl hne
    | cons c l =>
      refine ⟨c, l, rfl, ?_⟩
      rw [List.all_cons, Bool.and_eq_true] at h2
      simpa [isFig] using h2.1
theorem QRel.next {w0 w w3 : World} {b : Nat} {L : List (List UInt8)} {k : Nat} {p : List UInt8} {u : Nat} (h : QRel w0 b L k w) (hb : Below w.heap.size w w3) (hp : L[k]? = some p) (hu : smallL p = some u) (hk : k < 4) (hbb : w0.heap.size + 1 < b) :
    QRel w0 b L (k + 1) (w3.setCell ⟨b, k, none⟩ (.int .u16 u)) := by
  obtain ⟨ns, h1, h2, cs, h3, h4, h5⟩ := h.ns
  refine ⟨⟨ns ++ [u], by simp [h1], fun i n hi => ?_, _, (h3.keep hb).set_ k _, by simpa using h4, fun i n hi => ?_⟩, ?_, (h.out.keep hb).far (by show w0.heap.size ≠ b; omega) _, (belowOn h.be h.be.size hb).setCell (by show w0.heap.size ≤ b; omega) _⟩
  · by_cases hik : i < k
    · rw [List.getElem?_append_left (by omega)] at hi
      exact h2 i n hi
    · by_cases he : i = k
      · subst he
        rw [List.getElem?_append_right (by omega), h1, Nat.sub_self] at hi
        obtain rfl : u = n := by simpa using hi
        exact ⟨p, hp, hu⟩
      · have := (List.getElem?_eq_some_iff.1 hi).1
        simp at this
        omega
  · by_cases hik : i < k
    · rw [List.getElem?_append_left (by omega)] at hi
      rw [Array.getElem?_setIfInBounds_ne (by omega)]
      exact h5 i n hi
    · by_cases he : i = k
      · subst he
        rw [List.getElem?_append_right (by omega), h1, Nat.sub_self] at hi
        obtain rfl : u = n := by simpa using hi
        rw [Array.getElem?_setIfInBounds_self_of_lt (by omega)]
      · have := (List.getElem?_eq_some_iff.1 hi).1
        simp at this
        omega
  · obtain ⟨cs2, r1, r2⟩ := h.row
    exact ⟨cs2, (r1.keep hb).far (by show w0.heap.size + 1 ≠ b; omega) _, r2⟩
theorem QRel.start {w0 w1 : World} {L : List (List UInt8)} (hR : RowS w1 (w0.heap.size + 1) L) (hO : Blk w1 w0.heap.size 65 #[.int .u16 0, .int .u16 0]) (hb : Below w0.heap.size w0 w1) :
    QRel w0 w1.heap.size L 0 (w1.alloc (.cells #[.int .u16 0, .int .u16 0, .int .u16 0, .int .u16 0] 98)) :=
  ⟨⟨[], rfl, fun i n h => by simp at h, _, Blk.new w1 _ _, rfl, fun i n h => by simp at h⟩, hR.keep ((Below.refl _ _).alloc (Nat.le_refl _) _), hO.alloc _, hb.alloc hb.size _⟩
theorem QRel.cell {w0 w : World} {b : Nat} {L : List (List UInt8)} {k : Nat} (h : QRel w0 b L k w) (i : Nat) (hi : i < 4) : ∃ x, w.cell? ⟨b, i, none⟩ = some x := by
  obtain ⟨ns, h1, h2, cs, h3, h4, h5⟩ := h.ns
  exact ⟨cs[i]'(by omega), by rw [h3.cell, Array.getElem?_eq_getElem (by omega)]⟩
theorem QRel.frozen {w0 w : World} {b : Nat} {L : List (List UInt8)} {k : Nat} (h : QRel w0 b L k w) (i : Nat) : w.frozen? ⟨b, i, none⟩ = false := by
  obtain ⟨ns, h1, h2, cs, h3, _⟩ := h.ns
  exact h3.frozen i
theorem QRel.fin {w0 w : World} {b : Nat} {L : List (List UInt8)} (h : QRel w0 b L 4 w) (hl : L.length = 4) : ∃ x y z u : Nat, quadP L = some (256 * x + y, 256 * z + u) ∧ x ≤ 255 ∧ y ≤ 255 ∧ z ≤ 255 ∧ u ≤ 255 ∧ w.cell? ⟨b, 0, none⟩ = some (.int .u16 x) ∧ w.cell? ⟨b, 1, none⟩ = some (.int .u16 y) ∧ w.cell? ⟨b, 2, none⟩ = some (.int .u16 z) ∧ w.cell? ⟨b, 3, none⟩ = some (.int .u16 u) := by
  obtain ⟨ns, h1, h2, cs, h3, h4, h5⟩ := h.ns
  match ns, h1 with
  | [x, y, z, u], _ =>
    match L, hl with
    | [a, b', c, d], _ =>
      have q0 := h2 0 x rfl
      have q1 := h2 1 y rfl
      have q2 := h2 2 z rfl
      have q3 := h2 3 u rfl
      simp at q0 q1 q2 q3
      refine ⟨x, y, z, u, ?_, (small_ok q0).1, (small_ok q1).1, (small_ok q2).1, (small_ok q3).1, ?_, ?_, ?_, ?_⟩
      · simp only [quadP, q0, q1, q2, q3]
      all_goals rw [h3.cell]
      · exact h5 0 x rfl
      · exact h5 1 y rfl
      · exact h5 2 z rfl
      · exact h5 3 u rfl
theorem or_quad : ∀ y : Nat, y < 256 → ∀ x : Nat, x < 256 → bits .or .u16 ((256 * x : Nat) : Int) (y : Int) = ((256 * x + y : Nat) : Int) := by
  intro y hy x hx
  have e : bits .or .u16 ((256 * x : Nat) : Int) (y : Int) = ((256 * x ||| y : Nat) : Int) := by
    have h1 : (BitVec.ofInt 16 ((256 * x : Nat) : Int)).toNat = 256 * x := by rw [BitVec.ofInt_natCast, BitVec.toNat_ofNat]; exact Nat.mod_eq_of_lt (by omega)
    have h2 : (BitVec.ofInt 16 (y : Int)).toNat = y := by rw [BitVec.ofInt_natCast, BitVec.toNat_ofNat]; exact Nat.mod_eq_of_lt (by omega)
    have h3 : 256 * x ||| y < 2 ^ 16 := Nat.or_lt_two_pow (by omega) (by omega)
    show IntKind.u16.wrap ((BitVec.ofInt 16 ((256 * x : Nat) : Int) ||| BitVec.ofInt 16 (y : Int)).toNat : Int) = _
    rw [BitVec.toNat_or, h1, h2, IntKind.wrap_u16]
    omega
  rw [e]
  congr 1
  have := Nat.two_pow_add_eq_or_of_lt (i := 8) (by omega : y < 2 ^ 8) x
  rw [show (256 : Nat) = 2 ^ 8 from rfl, this]

set_option maxHeartbeats 4000000 in
theorem quad_calls (s : ByteArray) {w : World} (hF : FW w) (hs : s.size ≤ 1000) :
    Calls Tryz.prog 30 #[.string s] w fun e w' => e = .returned (quadR (quadL s.data.toList)) ∧ Below w.heap.size w w' := by
  have HC := Lib.hid (split_calls s 46 (hF.keep ((Below.refl _ _).alloc (Nat.le_refl _) (.cells #[.int .u16 0, .int .u16 0] 65))) (by omega))
  have hps : ∀ p ∈ splitL 46 s.data.toList, p.length ≤ 1000 := fun p hp => by have := splitL_part 46 _ p hp; have : s.data.toList.length = s.size := by simp
                                                                              omega
  have HD := Lib.hid (show quadL s.data.toList = quadP (splitL 46 s.data.toList) from rfl)
  have hl : (splitL 46 s.data.toList).length ≤ 1001 := by
    have := splitL_length 46 s.data.toList
    have : s.data.toList.length = s.size := by simp
    omega
  generalize quadL s.data.toList = R at HD ⊢
  generalize splitL 46 s.data.toList = L at HC HD hps hl
  have HF := Lib.hid hF
  clear hF
  go_enter Tryz.func30, Tryz.ntmps30
  go_wp2_with fail
  refine HC.out.mono ?_
  rintro e w1 ⟨rfl, hR, hb⟩
  have hsz : (w.alloc (.cells #[.int .u16 0, .int .u16 0] 65)).heap.size = w.heap.size + 1 := by simp
  have HR := Lib.hid (show RowS w1 (w.heap.size + 1) L from hsz ▸ hR)
  have HB := Lib.hid (belowOn ((Below.refl w.heap.size w).alloc (Nat.le_refl _) _) (by simp) hb)
  have HO := Lib.hid (Blk.keep (Blk.new w 65 #[.int .u16 0, .int .u16 0]) hb)
  clear hR hb HC hsz
  have hc0 : ∀ o, (w1.alloc o).cell? ⟨w.heap.size, 0, none⟩ = some (.int .u16 0) := fun o => (HO.out.alloc o).cell 0
  have hc1 : ∀ o, (w1.alloc o).cell? ⟨w.heap.size, 1, none⟩ = some (.int .u16 0) := fun o => (HO.out.alloc o).cell 1
  have hf0 : ∀ o i, (w1.alloc o).frozen? ⟨w.heap.size, i, none⟩ = false := fun o i => (HO.out.alloc o).frozen i
  by_cases h4 : L.length = 4
  · rw [h4]
    clear hc0 hc1 hf0
    go_wp2_with fail
    go_loopg [18, 6, 7, 8, 9] 4 (fun m v18 v6 v7 v8 v9 w' => Hid (∃ (k : Nat), k ≤ 4 ∧ v18 = .int .i64 k ∧ m = 4 - k ∧ QRel w w1.heap.size L k w'))
    case atStart => exact ⟨0, by omega, rfl, rfl, QRel.start HR.out (HO.out) HB.out⟩
    case round =>
      obtain ⟨k, hk, rfl, hm, hQ⟩ := hrel.out
      clear hrel
      have HM := Lib.hid hm
      have HQ := Lib.hid hQ
      clear hm hQ
      have hbb : w.heap.size + 1 < w1.heap.size := HR.out.lt
      by_cases hk4 : k < 4
      · obtain ⟨p, hp⟩ : ∃ p, L[k]? = some p := ⟨L[k]'(by omega), List.getElem?_eq_getElem _⟩
        have hrow := HQ.out.row.cell hp
        have HI := Lib.hid (decU_calls (mkB p) (HF.out.keep HQ.out.be) (by rw [mkB_size]; have := hps p (List.mem_of_getElem? hp); omega))
        go_wp2_with fail
        refine HI.out.mono ?_
        rintro e w3 ⟨hI, hb3⟩
        have HB3 := Lib.hid hb3
        rw [mkB_data] at hI
        clear HI hrow
        have hc0 : w3.cell? ⟨w.heap.size, 0, none⟩ = some (.int .u16 0) := (HQ.out.out.keep hb3).cell 0
        have hc1 : w3.cell? ⟨w.heap.size, 1, none⟩ = some (.int .u16 0) := (HQ.out.out.keep hb3).cell 1
        have hf0 : ∀ i, w3.frozen? ⟨w.heap.size, i, none⟩ = false := fun i => (HQ.out.out.keep hb3).frozen i
        rcases hI with ⟨u, hu, rfl⟩ | ⟨hno, m, t, x, rfl⟩
        · obtain ⟨hu255, c, l, hpc, c48, c57⟩ := fig_of hu
          have hq0 : 0 < (mkB p).size := by rw [mkB_size, hpc]; simp
          have hqv : (mkB p)[0]'hq0 = c := by subst hpc; rfl
          have hqs : (mkB p).size = p.length := mkB_size p
          have hps2 : p.length ≤ 1000 := hps p (List.mem_of_getElem? hp)
          have i48 : ¬ (((mkB p)[0]'hq0).toNat : Int) < 48 := by rw [hqv]; omega
          have i57 : ¬ (57 < (((mkB p)[0]'hq0).toNat : Int)) := by rw [hqv]; omega
          by_cases hbad : 1 < p.length ∧ p.head? = some 48
          · have HN := Lib.hid (show R = none by rw [HD.out]; exact quadP_none hp (by unfold smallL; rw [hu]; simp only; rw [if_pos hbad]))
            have i1 : 1 < ((mkB p).size : Int) := by rw [hqs]; omega
            have i2 : ((((mkB p)[0]'hq0).toNat : Int) == 48) = true := by rw [hqv]; rw [hpc] at hbad; have : c = 48 := by simpa using hbad.2
                                                                          rw [this]; rfl
            clear hb3 hqv hpc c48 c57 hu hqs hbad
            go_wp2_with fail
            refine bodyPost_ret (results_cell_row2 rfl _ _ w.heap.size 65 #[.int .u16 0, .int .u16 0] (0, 0) _ rfl (((HQ.out.out.keep HB3.out).set_ 0 _).set_ 1 _) Tryz.underlying65 rfl (by kernel_rfl)) rfl ?_
            exact ⟨by rw [HN.out]; rfl, (((belowOn HQ.out.be HQ.out.be.size HB3.out).setCell (Nat.le_refl _) _).setCell (Nat.le_refl _) _)⟩
          · have hsm : smallL p = some u := by unfold smallL; rw [hu]; simp only; rw [if_neg hbad]
            have HN := Lib.hid (HQ.out.next hb3 hp hsm hk4 hbb)
            obtain ⟨x0, hx0⟩ := QRel.cell HQ.out k hk4
            have hx : w3.cell? ⟨w1.heap.size, k, none⟩ = some x0 := (hb3.cell (p := ⟨w1.heap.size, k, none⟩) (World.block_lt_of_cell? _ _ hx0)).trans hx0
            obtain ⟨ns, n1, n2, cs, n3, n4, n5⟩ := HQ.out.ns
            have hfx : w3.frozen? ⟨w1.heap.size, k, none⟩ = false := (n3.keep hb3).frozen k
            have hu16 : IntKind.u16.wrap (u : Int) = (u : Int) := by rw [IntKind.wrap_u16]; omega
            clear n1 n2 n3 n4 n5
            by_cases h1 : 1 < p.length
            · have i1 : 1 < ((mkB p).size : Int) := by rw [hqs]; omega
              have i2 : ((((mkB p)[0]'hq0).toNat : Int) == 48) = false := by
                rw [hqv]
                have : c ≠ 48 := fun e => hbad ⟨h1, by rw [hpc, e]; rfl⟩
                have : c.toNat ≠ 48 := fun e => this (UInt8.toNat_inj.1 e)
                simp
                omega
              clear hb3 hqv hpc c48 c57 hu hqs hbad hc0 hc1 hf0
              go_wp2_with fail
              go_roundg (4 - (k + 1))
              case measure => have := HM.out; omega
              case rel => exact ⟨k + 1, by omega, by first | rfl | go_num, rfl, HN.out⟩
            · have i1 : ¬ 1 < ((mkB p).size : Int) := by rw [hqs]; omega
              clear hb3 hqv hpc c48 c57 hu hqs hbad hc0 hc1 hf0
              go_wp2_with fail
              go_roundg (4 - (k + 1))
              case measure => have := HM.out; omega
              case rel => exact ⟨k + 1, by omega, by first | rfl | go_num, rfl, HN.out⟩
        · have HN := Lib.hid (show R = none by
            rw [HD.out]
            exact quadP_none hp (by unfold smallL; split <;> simp_all))
          clear hb3 hno
          go_wp2_with fail
          refine bodyPost_ret (results_cell_row2 rfl _ _ w.heap.size 65 #[.int .u16 0, .int .u16 0] (0, 0) _ rfl (((HQ.out.out.keep HB3.out).set_ 0 _).set_ 1 _) Tryz.underlying65 rfl (by kernel_rfl)) rfl ?_
          exact ⟨by rw [HN.out]; rfl, (((belowOn HQ.out.be HQ.out.be.size HB3.out).setCell (Nat.le_refl _) _).setCell (Nat.le_refl _) _)⟩
      · obtain rfl : k = 4 := by omega
        obtain ⟨x, y, z, u, hv, x1, y1, z1, u1, hx, hy, hz, hu⟩ := QRel.fin HQ.out h4
        have hc0 : wr.cell? ⟨w.heap.size, 0, none⟩ = some (.int .u16 0) := HQ.out.out.cell 0
        have hc1 : wr.cell? ⟨w.heap.size, 1, none⟩ = some (.int .u16 0) := HQ.out.out.cell 1
        have hf0 : ∀ i, wr.frozen? ⟨w.heap.size, i, none⟩ = false := fun i => HQ.out.out.frozen i
        have HN := Lib.hid (show R = some (256 * x + y, 256 * z + u) by rw [HD.out, hv])
        have e1 := or_quad y (by omega) x (by omega)
        have e2 := or_quad u (by omega) z (by omega)
        clear hv
        go_wp2_with fail
        have g1 : (x : Int) * 256 = ((256 * x : Nat) : Int) := by omega
        have g2 : (z : Int) * 256 = ((256 * z : Nat) : Int) := by omega
        rw [g1, g2, e1, e2]
        refine bodyPost_ret (results_cell_row2 rfl _ _ w.heap.size 65 #[.int .u16 ((256 * x + y : Nat) : Int), .int .u16 ((256 * z + u : Nat) : Int)] (0, 0) _ rfl ((HQ.out.out.set_ 0 _).set_ 1 _) Tryz.underlying65 rfl (by kernel_rfl)) rfl ?_
        exact ⟨by rw [HN.out]; rfl, ((HQ.out.be.setCell (Nat.le_refl _) _).setCell (Nat.le_refl _) _)⟩
  · have HN := Lib.hid (show R = none by rw [HD.out]; unfold quadP; split <;> simp_all)
    go_wp2_with fail
    refine bodyPost_ret (results_cell_row2 rfl _ _ w.heap.size 65 #[.int .u16 0, .int .u16 0] (0, 0) _ rfl (((HO.out.alloc _).set_ 0 _).set_ 1 _) Tryz.underlying65 rfl (by kernel_rfl)) rfl ?_
    exact ⟨by rw [HN.out]; rfl, (((HB.out.alloc HB.out.size _).setCell (Nat.le_refl _) _).setCell (Nat.le_refl _) _)⟩
end Go.Proofs.YtodpjdeffhbkpaaGreatDoor

set_option maxRecDepth 100000
namespace Go.Proofs.YtodpjdeffhbkpaaGreatDoor
open Go.RowKit Four Six

def hexSet : List UInt8 := [48, 49, 50, 51, 52, 53, 54, 55, 56, 57, 97, 98, 99, 100, 101, 102, 65, 66, 67, 68, 69, 70]
theorem hexSet_is : ∀ c : UInt8, hexSet.contains c = isHex c := forall_u8 (by decide +kernel)
theorem trim_hex (l : List UInt8) : Lib.trimS l hexSet = [] ↔ l.all isHex = true := by
  have hp : (hexSet.contains ·) = isHex := funext hexSet_is
  unfold Lib.trimS Lib.trimLeftS Lib.trimRightS
  rw [hp, dropWhile_nil, List.all_eq_true]
  constructor
  · intro h
    have hr : l.reverse.dropWhile isHex = [] := by
      cases e : l.reverse.dropWhile isHex with
      | nil => rfl
      | cons x r =>
        have h1 := List.head?_dropWhile_not isHex l.reverse
        rw [e] at h1
        simp only [List.head?_cons] at h1
        have h2 := h x (by rw [e]; simp)
        rw [h2] at h1
        cases h1
    rw [dropWhile_nil] at hr
    intro x hx
    exact hr x (by simpa using hx)
  · intro h
    have hr : l.reverse.dropWhile isHex = [] := (dropWhile_nil _ _).2 fun x hx => h x (by simpa using hx)
    rw [hr]
    intro x hx
    simp at hx
theorem trimh_calls (s : ByteArray) (w : World) (hs : s.size ≤ 1000000) :
    Calls Tryz.prog 44 #[.string s, .string ⟨#[48, 49, 50, 51, 52, 53, 54, 55, 56, 57, 97, 98, 99, 100, 101, 102, 65, 66, 67, 68, 69, 70]⟩] w fun e w' => e = .returned (.string (mkB (Lib.trimS s.data.toList hexSet))) ∧ Below w.heap.size w w' :=
  Any.strings_Trim_laid Tryz.lays160 (by kernel_rfl) s _ w (by omega) (by decide) (ascii_of_all (by decide))
def pieceR : Option Nat → Value
  | none => .tuple #[.int .u16 0, .bool false]
  | some n => .tuple #[.int .u16 n, .bool true]
theorem mkB_empty (l : List UInt8) : (mkB l).toList.isEmpty = decide (l = []) := by
  rw [ByteArray.toList_eq, mkB_data]
  cases l <;> simp
set_option maxHeartbeats 4000000 in
theorem piece_calls (s : ByteArray) {w : World} (hs : s.size ≤ 1000) :
    Calls Tryz.prog 31 #[.string s] w fun e w' => e = .returned (pieceR (pieceL s.data.toList)) ∧ Below w.heap.size w w' := by
  have hsz : s.data.toList.length = s.size := by simp
  by_cases hlen : 1 ≤ s.size ∧ s.size ≤ 4
  · have HT := Lib.hid (trimh_calls s w (by omega))
    by_cases hhex : s.data.toList.all isHex = true
    · have HN := Lib.hid (show pieceL s.data.toList = some (hexV s.data.toList 0) by unfold pieceL; rw [if_pos ⟨by omega, by omega, hhex⟩])
      have he : (mkB (Lib.trimS s.data.toList hexSet)).toList.isEmpty = true := by rw [mkB_empty]; simpa using (trim_hex _).2 hhex
      have HU := Lib.hid (fun w => hexU_calls s hlen.1 hlen.2 hhex w)
      have hv := piece_bound HN.out
      have hw : IntKind.u16.wrap (hexV s.data.toList 0 : Int) = (hexV s.data.toList 0 : Int) := by rw [IntKind.wrap_u16]; omega
      have i1 : ¬ (s.size : Int) < 1 := by omega
      have i2 : ¬ 4 < (s.size : Int) := by omega
      generalize Lib.trimS s.data.toList hexSet = T at HT he
      generalize hexV s.data.toList 0 = V at *
      clear hsz hhex hlen
      go_enter Tryz.func31, Tryz.ntmps31
      go_wp2_with fail
      refine HT.out.mono ?_
      rintro e w1 ⟨rfl, hb⟩
      have HB := Lib.hid hb
      clear hb
      go_wp2_with fail
      refine (HU.out _).mono ?_
      rintro e w2 ⟨rfl, hb2⟩
      have HB2 := Lib.hid (belowOn HB.out HB.out.size hb2)
      clear hb2
      go_wp2_with fail
      go_region
      go_wp2_with fail
      go_ret2
      exact ⟨by rw [HN.out]; rfl, HB2.out.drew⟩
    · have HN := Lib.hid (show pieceL s.data.toList = none by unfold pieceL; rw [if_neg (fun h => hhex h.2.2)])
      have he : (mkB (Lib.trimS s.data.toList hexSet)).toList.isEmpty = false := by rw [mkB_empty]; simpa using fun h => hhex ((trim_hex _).1 h)
      have i1 : ¬ (s.size : Int) < 1 := by omega
      have i2 : ¬ 4 < (s.size : Int) := by omega
      generalize Lib.trimS s.data.toList hexSet = T at HT he
      clear hsz hhex hlen
      go_enter Tryz.func31, Tryz.ntmps31
      go_wp2_with fail
      refine HT.out.mono ?_
      rintro e w1 ⟨rfl, hb⟩
      have HB := Lib.hid hb
      clear hb
      go_wp2_with fail
      go_ret2
      exact ⟨by rw [HN.out]; rfl, HB.out⟩
  · have HN := Lib.hid (show pieceL s.data.toList = none by unfold pieceL; rw [if_neg (fun h => hlen ⟨by omega, by omega⟩)])
    by_cases h0 : s.size = 0
    · have i1 : (s.size : Int) < 1 := by omega
      clear hsz hlen h0
      go_enter Tryz.func31, Tryz.ntmps31
      go_wp2_with fail
      go_ret2
      exact ⟨by rw [HN.out]; rfl, Below.refl _ _⟩
    · have i1 : ¬ (s.size : Int) < 1 := by omega
      have i2 : 4 < (s.size : Int) := by omega
      clear hsz hlen h0
      go_enter Tryz.func31, Tryz.ntmps31
      go_wp2_with fail
      go_ret2
      exact ⟨by rw [HN.out]; rfl, Below.refl _ _⟩
end Go.Proofs.YtodpjdeffhbkpaaGreatDoor

set_option maxRecDepth 100000
namespace Go.Proofs.YtodpjdeffhbkpaaGreatDoor
open Go.RowKit Four Six

def numC (n : Nat) : List Value := [.int .u16 n]
theorem info_u16 : (Tryz.prog.info? 22).map (fun i => (i.zero, i.size, i.bytes)) = some (some (.int .u16 0), 1, 2) := by kernel_rfl
/-- What pieces' loop keeps. -/
structure PRel (w0 : World) (L : List (List UInt8)) (last : Bool) (k : Nat) (v : Value) (w : World) : Prop where
  acc : ∃ acc, walkL last L = (walkL last (L.drop k)).map (fun y => acc ++ y) ∧ OwnR w w0.heap.size 22 1 numC v acc ∧ acc.length ≤ 2 * k
  row : RowS w w0.heap.size L
  be : Below w0.heap.size w0 w
/-- How pieces ends. -/
def PRes (w0 w : World) (r : Option (List Nat)) (e : Ending) : Prop := match r with
  | none => e = .returned (.tuple #[.slice none 0 0, .bool false])
  | some x => ∃ v, e = .returned (.tuple #[v, .bool true]) ∧ OwnR w w0.heap.size 22 1 numC v x
theorem blk_rowN {w : World} {g : Nat} {t : TypeId} {cs : Array Value} {l : List Nat} (h : Blk w g t cs) (hc : cs.toList = l.flatMap numC) : RowAt numC 1 w (some ⟨g, 0, none⟩) l := by
  intro i x hx
  refine ⟨g, 0, rfl, fun j u hu => ?_⟩
  have hj : j < 1 := (List.getElem?_eq_some_iff.1 hu).1
  rw [h.cell, Nat.zero_add, ← Array.getElem?_toList, hc, flat_get (sz := 1) (f := numC) (fun _ => rfl) l i j x hx hj]
  exact hu
theorem PRel.next {w0 w1 w2 w3 : World} {L : List (List UInt8)} {last : Bool} {k : Nat} {v v' : Value} {acc x : List Nat} {p : List UInt8}
    (h : PRel w0 L last k v w1) (ha : walkL last L = (walkL last (L.drop k)).map (fun y => acc ++ y)) (hown : OwnR w1 w0.heap.size 22 1 numC v acc) (hac : acc.length ≤ 2 * k)
    (hp : L[k]? = some p) (hx : pieceP p (last && (L.drop (k + 1)).isEmpty) = some x) (hxl : x.length ≤ 2) (hb : Below w1.heap.size w1 w2) (ho : OwnR w3 w0.heap.size 22 1 numC v' (acc ++ x)) (hg : w2.grownBy w3 v.ownBlock) (hne : v.ownBlock ≠ some w0.heap.size) :
    PRel w0 L last (k + 1) v' w3 := by
  have hown' : ∀ g, v.ownBlock = some g → w0.heap.size ≤ g := fun g e => (row_blk hown e).1
  refine ⟨⟨acc ++ x, ?_, ho, by simp; omega⟩, ?_, (belowOn h.be h.be.size hb).grown hg (Nat.le_trans h.be.size hb.size) (fun g e => hown' g e)⟩
  · have hk := (List.getElem?_eq_some_iff.1 hp).1
    have hd : L.drop k = p :: L.drop (k + 1) := by rw [List.drop_eq_getElem_cons hk]; congr 1; exact (List.getElem?_eq_some_iff.1 hp).2
    rw [ha, hd, walkL, hx]
    simp only [Option.map_map]
    congr 1
    funext y
    simp
  · obtain ⟨cs, r1, r2⟩ := h.row
    exact ⟨cs, (r1.keep hb).grown hg (fun e => hne e.symm), r2⟩
theorem PRel.ne {w0 w : World} {L : List (List UInt8)} {last : Bool} {k : Nat} {v : Value} {acc : List Nat} (h : PRel w0 L last k v w) (hown : OwnR w w0.heap.size 22 1 numC v acc) : v.ownBlock ≠ some w0.heap.size := by
  intro e
  obtain ⟨_, cur, h2⟩ := row_blk hown e
  obtain ⟨cs, r1, _⟩ := h.row
  exact Blk.ne_ h2 r1 (by decide) rfl
theorem walkL_none {last : Bool} {L : List (List UInt8)} {k : Nat} {p : List UInt8} {acc : List Nat} (ha : walkL last L = (walkL last (L.drop k)).map (fun y => acc ++ y)) (hp : L[k]? = some p) (hx : pieceP p (last && (L.drop (k + 1)).isEmpty) = none) : walkL last L = none := by
  have hk := (List.getElem?_eq_some_iff.1 hp).1
  have hd : L.drop k = p :: L.drop (k + 1) := by rw [List.drop_eq_getElem_cons hk]; congr 1; exact (List.getElem?_eq_some_iff.1 hp).2
  rw [ha, hd, walkL, hx]
  rfl
theorem walkL_done {last : Bool} {L : List (List UInt8)} {k : Nat} {acc : List Nat} (ha : walkL last L = (walkL last (L.drop k)).map (fun y => acc ++ y)) (hk : L.length ≤ k) : walkL last L = some acc := by
  rw [ha, List.drop_eq_nil_of_le hk]
  simp [walkL]
set_option maxHeartbeats 8000000 in
theorem pieces_calls (s : ByteArray) (last : Bool) {w : World} (hF : FW w) (hs : s.size ≤ 1000) :
    Calls Tryz.prog 19 #[.string s, .bool last] w fun e w' => PRes w w' (listL s.data.toList last) e ∧ Below w.heap.size w w' := by
  by_cases h0 : s.data.toList = []
  · have hz : s.toList.isEmpty = true := by rw [ByteArray.toList_eq, h0]; rfl
    have HN := Lib.hid (show listL s.data.toList last = some [] by unfold listL; rw [if_pos h0])
    clear hF h0
    go_enter Tryz.func19, Tryz.ntmps19
    go_wp2_with fail
    go_ret2
    rw [HN.out]
    exact ⟨⟨_, rfl, OwnR.nil _ _ _ _ _⟩, Below.refl _ _⟩
  · have hz : s.toList.isEmpty = false := by rw [ByteArray.toList_eq]; simpa using h0
    have HN := Lib.hid (show listL s.data.toList last = walkL last (splitL 58 s.data.toList) by unfold listL; rw [if_neg h0])
    have HC := Lib.hid (split_calls s 58 hF (by omega))
    have hps : ∀ p ∈ splitL 58 s.data.toList, p.length ≤ 1000 := fun p hp => by have := splitL_part 58 _ p hp; have : s.data.toList.length = s.size := by simp
                                                                                omega
    have hl : (splitL 58 s.data.toList).length ≤ 1001 := by
      have := splitL_length 58 s.data.toList
      have : s.data.toList.length = s.size := by simp
      omega
    generalize listL s.data.toList last = R at HN ⊢
    generalize splitL 58 s.data.toList = L at HC HN hps hl
    have HF := Lib.hid hF
    have HP := Lib.hid hps
    clear hF hps h0
    go_enter Tryz.func19, Tryz.ntmps19
    go_wp2_with fail
    refine HC.out.mono ?_
    rintro e w1 ⟨rfl, hR, hb⟩
    have HR0 := Lib.hid (show PRel w L last 0 (.slice none 0 0) w1 from ⟨⟨[], by simp, OwnR.nil _ _ _ _ _, by simp⟩, hR, hb⟩)
    clear hR hb HC
    go_wp2_with fail
    go_loopg [20, 6] (L.length) (fun m v20 v6 w' => Hid (∃ (k : Nat), k ≤ L.length ∧ v20 = .int .i64 k ∧ m = L.length - k ∧ PRel w L last k v6 w'))
    case atStart => exact ⟨0, by omega, rfl, by omega, HR0.out⟩
    case round =>
      obtain ⟨k, hk, rfl, hm, hP⟩ := hrel.out
      clear hrel HR0
      have HM := Lib.hid hm
      have HQ := Lib.hid hP
      clear hm hP
      by_cases hkl : k < L.length
      · obtain ⟨p, hp⟩ : ∃ p, L[k]? = some p := ⟨L[k]'(by omega), List.getElem?_eq_getElem _⟩
        have hrow := HQ.out.row.cell hp
        have hpl : p.length ≤ 1000 := HP.out p (List.mem_of_getElem? hp)
        have HI := Lib.hid (quad_calls (mkB p) (HF.out.keep HQ.out.be) (by rw [mkB_size]; omega))
        have HI2 := Lib.hid (fun (W : World) => piece_calls (w := W) (mkB p) (by rw [mkB_size]; omega))
        rw [mkB_data] at HI HI2
        have HPp := Lib.hid hp
        have hem : (L.drop (k + 1)).isEmpty = decide (k + 1 = L.length) := by
          by_cases e : k + 1 = L.length
          · rw [List.drop_eq_nil_of_le (by omega)]; simp [e]
          · cases hd : L.drop (k + 1) with
            | nil => have := congrArg List.length hd; simp at this; omega
            | cons a b => simp [e]
        have HE := Lib.hid hem
        clear hem hp hpl
        go_wp2_with fail
        refine HI.out.mono ?_
        rintro e w3 ⟨hI, hb3⟩
        subst hI
        have HB3 := Lib.hid hb3
        clear hb3 HI hrow
        obtain ⟨acc, ha, hown, hac⟩ := HQ.out.acc
        have HA := Lib.hid ha
        have HO := Lib.hid hown
        clear ha hown
        rcases hq : quadL p with _ | q
        · simp only [quadR]
          have HX := Lib.hid (show pieceP p (last && (L.drop (k + 1)).isEmpty) = (pieceL p).map fun n => [n] by unfold pieceP; rw [hq])
          clear hq HE
          go_wp2_with fail
          refine (HI2.out _).mono ?_
          rintro e w4 ⟨rfl, hb4⟩
          have HB4 := Lib.hid (belowOn HB3.out HB3.out.size (belowOn ((Below.refl w3.heap.size w3).alloc (Nat.le_refl _) _) (by simp) hb4))
          clear hb4 HI2
          rcases hpc : pieceL p with _ | n
          · simp only [pieceR]
            have HX2 := Lib.hid (HX.out.trans (by rw [hpc]))
            clear hpc
            go_wp2_with fail
            go_ret2
            rw [HN.out, walkL_none HA.out HPp.out HX2.out]
            exact ⟨rfl, belowOn HQ.out.be HQ.out.be.size HB4.out⟩
          · simp only [pieceR]
            have HX2 := Lib.hid (HX.out.trans (show _ = some [n] by rw [hpc]; rfl))
            clear hpc
            go_wp2_with (at_builtin; refine stop_here ?_)
            refine stop_go ?_
            refine wpList_appendR numC 1 (fun _ => rfl) (by omega) (fun x u hu => by simp [numC] at hu; subst hu; rfl) rfl (.tmp 51) (.tmp 53) _ 22 _ 2 rfl Tryz.underlying46 info_u16 rfl (by omega) w.heap.size u6 _ (some ⟨w4.heap.size, 0, none⟩) 1 [n] rfl rfl (HO.out.below (HB4.out.alloc HB4.out.size _)) (blk_rowN (Blk.new w4 _ _) rfl) (by simp; omega) (by have := HQ.out.be.size; have := HB4.out.size; simp; omega) ?_
            intro v' w5 ho hg _
            have HNX := Lib.hid (PRel.next HQ.out HA.out HO.out hac HPp.out HX2.out (by simp) (HB4.out.alloc HB4.out.size _) ho hg (PRel.ne HQ.out HO.out))
            clear ho hg
            go_wp2_with fail
            go_roundg (L.length - (k + 1))
            case measure => have := HM.out; omega
            case rel => exact ⟨k + 1, by omega, by first | rfl | go_num, rfl, HNX.out⟩
        · simp only [quadR]
          by_cases hA : last = true ∧ k + 1 = L.length
          · obtain ⟨rfl, hkn⟩ := hA
            have HX := Lib.hid (show pieceP p (true && (L.drop (k + 1)).isEmpty) = some [q.1, q.2] by unfold pieceP; rw [hq, HE.out]; simp [hkn])
            have hi : ((k : Int) == (L.length : Int) - 1) = true := by simp; omega
            clear hq HE hkn
            go_wp2_with (at_builtin; refine stop_here ?_)
            refine stop_go ?_
            refine wpList_appendR numC 1 (fun _ => rfl) (by omega) (fun x u hu => by simp [numC] at hu; subst hu; rfl) rfl (.tmp 41) (.tmp 42) _ 22 _ 2 rfl Tryz.underlying46 info_u16 rfl (by omega) w.heap.size u6 _ (some ⟨w3.heap.size, 0, none⟩) 2 [q.1, q.2] rfl rfl (HO.out.below (HB3.out.alloc HB3.out.size _)) (blk_rowN (Blk.new w3 _ _) rfl) (by simp; omega) (by have := HQ.out.be.size; have := HB3.out.size; simp; omega) ?_
            intro v' w5 ho hg _
            have HNX := Lib.hid (PRel.next HQ.out HA.out HO.out hac HPp.out HX.out (by simp) (HB3.out.alloc HB3.out.size _) ho hg (PRel.ne HQ.out HO.out))
            clear ho hg
            go_wp2_with fail
            go_roundg (L.length - (k + 1))
            case measure => have := HM.out; omega
            case rel => exact ⟨k + 1, by omega, by first | rfl | go_num, rfl, HNX.out⟩
          · have HX := Lib.hid (show pieceP p (last && (L.drop (k + 1)).isEmpty) = (pieceL p).map fun n => [n] by
              unfold pieceP
              rw [hq, HE.out]
              simp only
              rw [if_neg (by simpa using hA)])
            rcases last with _ | _
            · clear hq HE hA
              go_wp2_with fail
              refine (HI2.out _).mono ?_
              rintro e w4 ⟨rfl, hb4⟩
              have HB4 := Lib.hid (belowOn HB3.out HB3.out.size (belowOn ((Below.refl w3.heap.size w3).alloc (Nat.le_refl _) _) (by simp) hb4))
              clear hb4 HI2
              rcases hpc : pieceL p with _ | n
              · simp only [pieceR]
                have HX2 := Lib.hid (HX.out.trans (by rw [hpc]))
                clear hpc
                go_wp2_with fail
                go_ret2
                rw [HN.out, walkL_none HA.out HPp.out HX2.out]
                exact ⟨rfl, belowOn HQ.out.be HQ.out.be.size HB4.out⟩
              · simp only [pieceR]
                have HX2 := Lib.hid (HX.out.trans (show _ = some [n] by rw [hpc]; rfl))
                clear hpc
                go_wp2_with (at_builtin; refine stop_here ?_)
                refine stop_go ?_
                refine wpList_appendR numC 1 (fun _ => rfl) (by omega) (fun x u hu => by simp [numC] at hu; subst hu; rfl) rfl (.tmp 51) (.tmp 53) _ 22 _ 2 rfl Tryz.underlying46 info_u16 rfl (by omega) w.heap.size u6 _ (some ⟨w4.heap.size, 0, none⟩) 1 [n] rfl rfl (HO.out.below (HB4.out.alloc HB4.out.size _)) (blk_rowN (Blk.new w4 _ _) rfl) (by simp; omega) (by have := HQ.out.be.size; have := HB4.out.size; simp; omega) ?_
                intro v' w5 ho hg _
                have HNX := Lib.hid (PRel.next HQ.out HA.out HO.out hac HPp.out HX2.out (by simp) (HB4.out.alloc HB4.out.size _) ho hg (PRel.ne HQ.out HO.out))
                clear ho hg
                go_wp2_with fail
                go_roundg (L.length - (k + 1))
                case measure => have := HM.out; omega
                case rel => exact ⟨k + 1, by omega, by first | rfl | go_num, rfl, HNX.out⟩
            · have hi : ((k : Int) == (L.length : Int) - 1) = false := by
                have : k + 1 ≠ L.length := fun e => hA ⟨rfl, e⟩
                simp
                omega
              clear hq HE hA
              go_wp2_with fail
              refine (HI2.out _).mono ?_
              rintro e w4 ⟨rfl, hb4⟩
              have HB4 := Lib.hid (belowOn HB3.out HB3.out.size (belowOn ((Below.refl w3.heap.size w3).alloc (Nat.le_refl _) _) (by simp) hb4))
              clear hb4 HI2
              rcases hpc : pieceL p with _ | n
              · simp only [pieceR]
                have HX2 := Lib.hid (HX.out.trans (by rw [hpc]))
                clear hpc
                go_wp2_with fail
                go_ret2
                rw [HN.out, walkL_none HA.out HPp.out HX2.out]
                exact ⟨rfl, belowOn HQ.out.be HQ.out.be.size HB4.out⟩
              · simp only [pieceR]
                have HX2 := Lib.hid (HX.out.trans (show _ = some [n] by rw [hpc]; rfl))
                clear hpc
                go_wp2_with (at_builtin; refine stop_here ?_)
                refine stop_go ?_
                refine wpList_appendR numC 1 (fun _ => rfl) (by omega) (fun x u hu => by simp [numC] at hu; subst hu; rfl) rfl (.tmp 51) (.tmp 53) _ 22 _ 2 rfl Tryz.underlying46 info_u16 rfl (by omega) w.heap.size u6 _ (some ⟨w4.heap.size, 0, none⟩) 1 [n] rfl rfl (HO.out.below (HB4.out.alloc HB4.out.size _)) (blk_rowN (Blk.new w4 _ _) rfl) (by simp; omega) (by have := HQ.out.be.size; have := HB4.out.size; simp; omega) ?_
                intro v' w5 ho hg _
                have HNX := Lib.hid (PRel.next HQ.out HA.out HO.out hac HPp.out HX2.out (by simp) (HB4.out.alloc HB4.out.size _) ho hg (PRel.ne HQ.out HO.out))
                clear ho hg
                go_wp2_with fail
                go_roundg (L.length - (k + 1))
                case measure => have := HM.out; omega
                case rel => exact ⟨k + 1, by omega, by first | rfl | go_num, rfl, HNX.out⟩
      · obtain ⟨acc, ha, hown, hac⟩ := HQ.out.acc
        have HD := Lib.hid (walkL_done ha (by omega))
        have HO := Lib.hid hown
        clear ha hown
        go_wp2_with fail
        go_ret2
        rw [HN.out, HD.out]
        exact ⟨⟨_, rfl, HO.out⟩, HQ.out.be⟩
end Go.Proofs.YtodpjdeffhbkpaaGreatDoor

set_option maxRecDepth 100000
namespace Go.Proofs.YtodpjdeffhbkpaaGreatDoor
open Go.RowKit Four Six

/-! ### A text cut at a pair of colons -/
theorem index_cutL : ∀ l : List UInt8, (cutL l = none ∧ Lib.index l [58, 58] = -1) ∨ ∃ h t, cutL l = some (h, t) ∧ Lib.index l [58, 58] = (h.length : Int) ∧ l = h ++ (58 :: 58 :: t)
  | [] => .inl ⟨rfl, rfl⟩
  | c :: l => by
    by_cases hc : c = 58 ∧ l.head? = some 58
    · obtain ⟨rfl, hl⟩ := hc
      cases l with
      | nil => simp at hl
      | cons d l =>
        obtain rfl : d = 58 := by simpa using hl
        exact .inr ⟨[], l, by simp [cutL], by simp [Lib.index], rfl⟩
    · have hp : ([58, 58] : List UInt8).isPrefixOf (c :: l) = false := by
        cases l with
        | nil => simp [List.isPrefixOf]
        | cons d l =>
          simp only [List.head?_cons, Option.some.injEq] at hc
          simp only [List.isPrefixOf, Bool.and_eq_false_iff, beq_eq_false_iff_ne, ne_eq]
          by_cases h1 : c = 58
          · exact .inr (.inl fun e => hc ⟨h1, e.symm⟩)
          · exact .inl fun e => h1 e.symm
      rcases index_cutL l with ⟨e1, e2⟩ | ⟨h, t, e1, e2, e3⟩
      · exact .inl ⟨by rw [cutL, if_neg hc, e1]; rfl, by rw [Lib.index, hp, e2]; rfl⟩
      · refine .inr ⟨c :: h, t, by rw [cutL, if_neg hc, e1]; rfl, ?_, by rw [e3]; rfl⟩
        rw [Lib.index, hp, e2]
        have : ((h.length : Int) == -1) = false := by simp
        simp [this]
def cut3 (l : List UInt8) : List UInt8 × List UInt8 × Bool := match cutL l with
  | none => (l, [], false)
  | some p => (p.1, p.2, true)
theorem cut_is (l : List UInt8) : Lib.cut l [58, 58] = cut3 l := by
  unfold Lib.cut cut3
  rcases index_cutL l with ⟨e1, e2⟩ | ⟨h, t, e1, e2, e3⟩
  · rw [e1, e2]
    rfl
  · rw [e1, e2, if_pos (by omega)]
    simp only [Int.toNat_natCast, Prod.mk.injEq, and_true]
    constructor
    · rw [e3]; simp
    · conv => lhs; rw [e3]
      simp
theorem cut3_short (l : List UInt8) : (cut3 l).1.length ≤ l.length ∧ (cut3 l).2.1.length ≤ l.length := by
  unfold cut3
  rcases index_cutL l with ⟨e1, e2⟩ | ⟨h, t, e1, e2, e3⟩
  · rw [e1]; simp
  · rw [e1]
    have := congrArg List.length e3
    simp at this
    simp only
    omega
theorem cut_calls (s : ByteArray) {w : World} (hF : FW w) (hs : s.size ≤ 1000) :
    Calls Tryz.prog 18 #[.string s, .string ⟨#[58, 58]⟩] w fun e w' => e = .returned (.tuple #[.string (mkB (cut3 s.data.toList).1), .string (mkB (cut3 s.data.toList).2.1), .bool (cut3 s.data.toList).2.2]) ∧ Below w.heap.size w w' := by
  obtain ⟨m, hm⟩ := hF.ml
  refine (Tryz.strings_Cut s ⟨#[58, 58]⟩ m w (by omega) hm).mono ?_
  rintro e w' ⟨rfl, n, rfl⟩
  refine ⟨?_, below_drewN w n⟩
  rw [← cut_is]
  rfl
/-- The answer, of what is ahead and what is behind. -/
def ans6 (found : Bool) : Option (List Nat) → Option (List Nat) → Option (List Nat)
  | some a, some b => if (if found = true then a.length + b.length < 8 else a.length + b.length = 8) then some (a ++ List.replicate (8 - (a.length + b.length)) 0 ++ b) else none
  | _, _ => none
theorem parse6_is (l : List UInt8) : parse6 l = ans6 (cut3 l).2.2 (listL (cut3 l).1 (!(cut3 l).2.2)) (listL (cut3 l).2.1 true) := by
  unfold parse6 cut3
  cases cutL l with
  | none =>
    simp only [Bool.not_false]
    have e : listL [] true = some [] := rfl
    rw [e]
    cases listL l true with
    | none => rfl
    | some a =>
      simp only [ans6, Option.bind_some, List.length_nil, Nat.add_zero, List.append_nil]
      by_cases h : a.length = 8
      · rw [if_pos h]; simp [h]
      · rw [if_neg h]; simp [h]
  | some p =>
    simp only [Bool.not_true]
    cases listL p.1 false with
    | none => rfl
    | some a => cases listL p.2 true with
      | none => rfl
      | some b => simp [ans6]

/-! ### The parse -/
def cells6 (a : List Nat) : List Value := a.map fun (n : Nat) => .int .u16 n
def adr (a : List Nat) : Value := .agg (cells6 a).toArray
def zero8 : List Nat := [0, 0, 0, 0, 0, 0, 0, 0]
theorem splice_six {a b : List Nat} (h : a.length + b.length ≤ 8) : splice (splice (cells6 zero8) 0 (cells6 a)) (8 - b.length) (cells6 b) = cells6 (a ++ List.replicate (8 - (a.length + b.length)) 0 ++ b) := by
  have hz : cells6 zero8 = List.replicate 8 (.int .u16 0) := rfl
  have e1 : splice (cells6 zero8) 0 (cells6 a) = cells6 a ++ List.replicate (8 - a.length) (.int .u16 0) := by
    rw [hz]
    unfold splice
    rw [List.take_zero, List.nil_append, List.drop_replicate, show (cells6 a).length = a.length by simp [cells6], Nat.zero_add]
  rw [e1]
  unfold splice
  have ha : (cells6 a).length = a.length := by simp [cells6]
  have hb : (cells6 b).length = b.length := by simp [cells6]
  rw [hb, show 8 - b.length + b.length = 8 by omega, List.drop_eq_nil_of_le (by simp [ha]; omega), List.append_nil, List.take_append, ha, List.take_of_length_le (by omega), List.take_replicate, show min (8 - b.length - a.length) (8 - a.length) = 8 - (a.length + b.length) by omega]
  simp [cells6]
def PEnd6 (w0 : World) (r : Option (List Nat)) (e : Ending) (w : World) : Prop := (match r with
  | none => ∃ v l, e = .returned (.tuple #[adr zero8, v]) ∧ Chain w l v 2
  | some a => e = .returned (.tuple #[adr a, .nilIface])) ∧ Below w0.heap.size w0 w
theorem PRes.cases {w0 w : World} {r : Option (List Nat)} {e : Ending} (h : PRes w0 w r e) : ∃ A c l ok, e = .returned (.tuple #[.slice A l.length c, .bool ok]) ∧ RowAt numC 1 w A l ∧ l.length ≤ c ∧ r = (if ok = true then some l else none) ∧ (ok = false → l = []) := by
  cases r with
  | none => exact ⟨none, 0, [], false, h, fun i x hx => by simp at hx, Nat.le_refl _, rfl, fun _ => rfl⟩
  | some x =>
    obtain ⟨v, rfl, ho⟩ := h
    obtain ⟨A, c, rfl, hr, hc, _⟩ := ho.row (fun _ => rfl)
    exact ⟨A, c, x, true, rfl, hr, hc, rfl, fun e => by cases e⟩
theorem rowN_below {w w' : World} {A : Option Addr} {l : List Nat} {B : Nat} (h : RowAt numC 1 w A l) (hb : Below w.heap.size w w') : RowAt numC 1 w' A l := by
  intro i x hx
  obtain ⟨b, off, rfl, hc⟩ := h i x hx
  refine ⟨b, off, rfl, fun j u hu => ?_⟩
  have := hc j u hu
  exact (hb.cell (p := ⟨b, off + i * 1 + j, none⟩) (World.block_lt_of_cell? w _ this)).trans this

theorem stop64 {P : Program} {ops : Array Oper} {rest : List Oper} {a : Act} {w : World} {Q : Exit → Act → World → Prop} {a1 : Op} {a2 : TypeId} {a3 : String} {a4 : Array Edge} {a5 : Option (Nat × Bool)} (h : Stop (wpList P ops Q (⟨some 64, a1, a2, a3, a4, a5⟩ :: rest) a w)) : wpList P ops Q (⟨some 64, a1, a2, a3, a4, a5⟩ :: rest) a w := h
theorem stop70 {P : Program} {ops : Array Oper} {rest : List Oper} {a : Act} {w : World} {Q : Exit → Act → World → Prop} {a1 : Op} {a2 : TypeId} {a3 : String} {a4 : Array Edge} {a5 : Option (Nat × Bool)} (h : Stop (wpList P ops Q (⟨some 70, a1, a2, a3, a4, a5⟩ :: rest) a w)) : wpList P ops Q (⟨some 70, a1, a2, a3, a4, a5⟩ :: rest) a w := h
theorem cells6_one (l : List Nat) : ∀ v ∈ cells6 l, v.oneCell' = true := by
  intro v hv
  simp only [cells6, List.mem_map] at hv
  obtain ⟨n, _, rfl⟩ := hv
  rfl
theorem rowN_src {w w' : World} {A : Option Addr} {l : List Nat} {C : List Value} (h : RowAt numC 1 w A l) (hC : C = cells6 l) (hp : 0 < C.length) (hb : Below w.heap.size w w') : ∃ ad, A = some ad ∧ ∀ j v, C[j]? = some v → w'.cell? (ad.add j) = some v := by
  subst hC
  have hl : 0 < l.length := by simpa [cells6] using hp
  obtain ⟨b, off, rfl, _⟩ := h 0 l[0] (List.getElem?_eq_getElem hl)
  refine ⟨_, rfl, fun j v hj => ?_⟩
  simp only [cells6, List.getElem?_map, Option.map_eq_some_iff] at hj
  obtain ⟨n, hn, rfl⟩ := hj
  obtain ⟨b', off', e, hc⟩ := h j n hn
  cases e
  have := hc 0 (.int .u16 n) rfl
  have ea : ((⟨b, off, none⟩ : Addr).add j) = ⟨b, off + j * 1 + 0, none⟩ := by unfold Addr.add; split <;> simp_all
  rw [ea]
  exact (hb.cell (p := ⟨b, off + j * 1 + 0, none⟩) (World.block_lt_of_cell? w _ this)).trans this
theorem slice8 (g m : Nat) (hm : m ≤ 8) (W : World) : (Instr.sliceAt 23 (.pointer (some ⟨g, 0, none⟩)) (some (.int .i64 (8 - (m : Int)))) none none).run Tryz.prog W = .ok (.slice (some ⟨g, if m = 0 then 0 else 8 - m, none⟩) m m) W := by
  have hal : Tryz.prog.arrayLen 23 = 8 := by kernel_rfl
  have hel : Tryz.prog.elem 23 = 22 := by kernel_rfl
  have hso : (sizeOf 22).run Tryz.prog W = .ok 1 W := by
    have := info_u16
    obtain ⟨i, hi, hz⟩ := Option.map_eq_some_iff.1 this
    simp only [Prod.mk.injEq] at hz
    simp [sizeOf, typeInfo, hi, hz.2.1]
  rw [run_sliceAt_array_l W 23 ⟨g, 0, none⟩ (by rw [hal, hel]; exact Tryz.underlying23) .i64 (8 - (m : Int)) (by omega) (by rw [hal]; omega), hal, hel, hso]
  have e : (8 - (m : Int)).toNat = 8 - m := by omega
  rw [e]
  simp only [Result.andThen_ok, slicedAt]
  by_cases h0 : m = 0
  · subst h0
    simp
  · rw [if_neg h0, if_neg (by omega)]
    simp [Addr.add]
    omega
theorem fail_far {w : World} {g b : Nat} {s : ByteArray} {v : Value} {cs : Array Value} (hg : w.heap[g]? = some (.cells #[.string s, v] 62 (0, 0))) (hb : Blk w b 23 cs) : g ≠ b := by
  rintro rfl
  unfold Blk at hb
  rw [hb] at hg
  injection hg with hg
  injection hg with _ ht
  exact absurd ht (by decide)
theorem fail_set {w : World} {g b : Nat} {s : ByteArray} {v : Value} (hg : w.heap[g]? = some (.cells #[.string s, v] 62 (0, 0))) (hne : g ≠ b) (i : Nat) (u : Value) : (w.setCell ⟨b, i, none⟩ u).heap[g]? = some (.cells #[.string s, v] 62 (0, 0)) := (Below.heap_setCell w ⟨b, i, none⟩ u g hne).trans hg
set_option maxHeartbeats 8000000 in
theorem parse_calls (s : ByteArray) {w : World} (hF : FW w) (hs : s.size ≤ 1000) :
    Calls Tryz.prog 11 #[.string s] w (PEnd6 w (parse6 s.data.toList)) := by
  have hsz : s.data.toList.length = s.size := by simp
  have hcs := cut3_short s.data.toList
  have HP := Lib.hid (parse6_is s.data.toList)
  have HF := Lib.hid hF
  have HC := Lib.hid (fun (W : World) (h : Below w.heap.size w W) => cut_calls s (hF.keep h) hs)
  clear hF
  generalize parse6 s.data.toList = R at HP ⊢
  generalize cut3 s.data.toList = K at *
  obtain ⟨h, t, found⟩ := K
  simp only at HP HC hcs
  have h1 : h.length ≤ 1000 := by omega
  have h2 : t.length ≤ 1000 := by omega
  have HA := Lib.hid (fun (W : World) (hb : Below w.heap.size w W) => pieces_calls (mkB h) (!found) (HF.out.keep hb) (by rw [mkB_size]; exact h1))
  have HB := Lib.hid (fun (W : World) (hb : Below w.heap.size w W) => pieces_calls (mkB t) true (HF.out.keep hb) (by rw [mkB_size]; exact h2))
  rw [mkB_data] at HA HB
  have HL1 := Lib.hid (fun (x : List Nat) (e : listL h (!found) = some x) => Nat.le_trans (listL_bound e).2 (show 2 * (h.length + 1) ≤ 2002 by omega))
  have HL2 := Lib.hid (fun (x : List Nat) (e : listL t true = some x) => Nat.le_trans (listL_bound e).2 (show 2 * (t.length + 1) ≤ 2002 by omega))
  clear hsz hcs h1 h2
  go_enter Tryz.func11, Tryz.ntmps11
  go_wp2_with fail
  refine (wrap_some _ _ _ _).mono ?_
  rintro e w1 ⟨rfl, hw1⟩
  have HB1 := Lib.hid (show Below w.heap.size w w1 from hw1 ▸ (((Below.refl w.heap.size w).alloc (Nat.le_refl _) _).alloc (by simp) _))
  have HO1 := Lib.hid (show Blk w1 w.heap.size 23 #[.int .u16 0, .int .u16 0, .int .u16 0, .int .u16 0, .int .u16 0, .int .u16 0, .int .u16 0, .int .u16 0] from hw1 ▸ (Blk.new w _ _).alloc _)
  have HE1 := Lib.hid (show ∃ l, Chain w1 l (.iface 60 (.pointer (some ⟨w.heap.size + 1, 0, none⟩))) 2 from ⟨[_], .fail _ _ _ _ _ (by rw [← hw1]; have := heap_alloc_new (w.alloc (.cells #[.int .u16 0, .int .u16 0, .int .u16 0, .int .u16 0, .int .u16 0, .int .u16 0, .int .u16 0, .int .u16 0] 23)) (.cells #[.string ⟨#[105, 112, 115, 105, 120]⟩, .iface 35 (.int .i64 2)] 62); simpa using this) (.num 2)⟩)
  clear hw1
  go_wp2_with fail
  refine (HC.out w1 HB1.out).mono ?_
  rintro e w2 ⟨rfl, hb⟩
  have HB2 := Lib.hid (belowOn HB1.out HB1.out.size hb)
  have HK2 := Lib.hid hb
  clear hb
  go_wp2_with fail
  refine (HA.out w2 HB2.out).mono ?_
  rintro e w3 ⟨hres, hb⟩
  obtain ⟨A1, c1, l1, ok1, rfl, hr1, hc1, hv1, hn1⟩ := PRes.cases hres
  have HR1 := Lib.hid hr1
  have HV1 := Lib.hid hv1
  have HB3 := Lib.hid (belowOn HB2.out HB2.out.size hb)
  have HK3 := Lib.hid (belowOn HK2.out HK2.out.size hb)
  have hl1 : l1.length ≤ 2002 := by
    cases ok1 with
    | true => exact HL1.out _ hv1
    | false => rw [hn1 rfl]; simp
  clear hb hres hr1 hv1 hn1 HA HC HL1
  go_wp2_with fail
  refine (HB.out w3 HB3.out).mono ?_
  rintro e w4 ⟨hres, hb⟩
  obtain ⟨A2, c2, l2, ok2, rfl, hr2, hc2, hv2, hn2⟩ := PRes.cases hres
  have HR2 := Lib.hid hr2
  have HV2 := Lib.hid hv2
  have HR1' := Lib.hid (rowN_below (B := 0) HR1.out hb)
  have HB4 := Lib.hid (belowOn HB3.out HB3.out.size hb)
  have HK4 := Lib.hid (belowOn HK3.out HK3.out.size hb)
  have hl2 : l2.length ≤ 2002 := by
    cases ok2 with
    | true => exact HL2.out _ hv2
    | false => rw [hn2 rfl]; simp
  clear hb hres hr2 hv2 hn2 HB HR1 HL2
  have HO4 := Lib.hid (HO1.out.keep HK4.out)
  have HE4 := Lib.hid (show ∃ l, Chain w4 l (.iface 60 (.pointer (some ⟨w.heap.size + 1, 0, none⟩))) 2 from by
    obtain ⟨l, hl⟩ := HE1.out
    exact ⟨l, hl.mono fun g s v hg => (HK4.out.block g (Array.getElem?_eq_some_iff.1 hg).1).trans hg⟩)
  clear HO1 HE1
  rw [HV1.out, HV2.out] at HP
  clear HV1 HV2
  have hc_0 : w4.cell? ⟨w.heap.size, 0, none⟩ = some (.int .u16 0) := HO4.out.cell 0
  have hc_1 : w4.cell? ⟨w.heap.size, 1, none⟩ = some (.int .u16 0) := HO4.out.cell 1
  have hc_2 : w4.cell? ⟨w.heap.size, 2, none⟩ = some (.int .u16 0) := HO4.out.cell 2
  have hc_3 : w4.cell? ⟨w.heap.size, 3, none⟩ = some (.int .u16 0) := HO4.out.cell 3
  have hc_4 : w4.cell? ⟨w.heap.size, 4, none⟩ = some (.int .u16 0) := HO4.out.cell 4
  have hc_5 : w4.cell? ⟨w.heap.size, 5, none⟩ = some (.int .u16 0) := HO4.out.cell 5
  have hc_6 : w4.cell? ⟨w.heap.size, 6, none⟩ = some (.int .u16 0) := HO4.out.cell 6
  have hc_7 : w4.cell? ⟨w.heap.size, 7, none⟩ = some (.int .u16 0) := HO4.out.cell 7
  have hf_ : ∀ i, w4.frozen? ⟨w.heap.size, i, none⟩ = false := fun i => HO4.out.frozen i
  rcases ok1 with _ | _
  · simp only [Bool.false_eq_true, if_false] at HP
    have HN := Lib.hid (show R = none by rw [HP.out]; rfl)
    go_wp2_with fail
    refine bodyPost_ret (results_cell_row2 rfl _ _ w.heap.size 23 _ (0, 0) _ rfl ((((((((HO4.out.set_ 0 _).set_ 1 _).set_ 2 _).set_ 3 _).set_ 4 _).set_ 5 _).set_ 6 _).set_ 7 _) Tryz.underlying23 rfl (by kernel_rfl)) rfl ?_
    rw [HN.out]
    obtain ⟨l, hl⟩ := HE4.out
    exact ⟨⟨_, l, rfl, hl.mono fun g s v hg => by have hne := fail_far hg HO4.out; exact (fail_set (fail_set (fail_set (fail_set (fail_set (fail_set (fail_set (fail_set hg hne 0 _) hne 1 _) hne 2 _) hne 3 _) hne 4 _) hne 5 _) hne 6 _) hne 7 _)⟩, ((((((((HB4.out.setCell (Nat.le_refl _) _).setCell (Nat.le_refl _) _).setCell (Nat.le_refl _) _).setCell (Nat.le_refl _) _).setCell (Nat.le_refl _) _).setCell (Nat.le_refl _) _).setCell (Nat.le_refl _) _).setCell (Nat.le_refl _) _)⟩
  · rcases ok2 with _ | _
    · simp only [Bool.false_eq_true, if_false, if_true] at HP
      have HN := Lib.hid (show R = none by rw [HP.out]; rfl)
      go_wp2_with fail
      refine bodyPost_ret (results_cell_row2 rfl _ _ w.heap.size 23 _ (0, 0) _ rfl ((((((((HO4.out.set_ 0 _).set_ 1 _).set_ 2 _).set_ 3 _).set_ 4 _).set_ 5 _).set_ 6 _).set_ 7 _) Tryz.underlying23 rfl (by kernel_rfl)) rfl ?_
      rw [HN.out]
      obtain ⟨l, hl⟩ := HE4.out
      exact ⟨⟨_, l, rfl, hl.mono fun g s v hg => by have hne := fail_far hg HO4.out; exact (fail_set (fail_set (fail_set (fail_set (fail_set (fail_set (fail_set (fail_set hg hne 0 _) hne 1 _) hne 2 _) hne 3 _) hne 4 _) hne 5 _) hne 6 _) hne 7 _)⟩, ((((((((HB4.out.setCell (Nat.le_refl _) _).setCell (Nat.le_refl _) _).setCell (Nat.le_refl _) _).setCell (Nat.le_refl _) _).setCell (Nat.le_refl _) _).setCell (Nat.le_refl _) _).setCell (Nat.le_refl _) _).setCell (Nat.le_refl _) _)⟩
    · simp only [if_true] at HP
      rcases found with _ | _
      · by_cases h8 : l1.length + l2.length = 8
        · have h8' : (l1.length : Int) + (l2.length : Int) = 8 := by omega
          have HN := Lib.hid (show R = some (l1 ++ List.replicate (8 - (l1.length + l2.length)) 0 ++ l2) by rw [HP.out]; simp [ans6, h8])
          clear hc_0 hc_1 hc_2 hc_3 hc_4 hc_5 hc_6 hc_7 hf_
          go_wp2_with (with_reducible refine stop64 ?_)
          refine stop_go ?_
          obtain ⟨C1, hC1⟩ : ∃ C, C = cells6 l1 := ⟨_, rfl⟩
          obtain ⟨C2, hC2⟩ : ∃ C, C = cells6 l2 := ⟨_, rfl⟩
          obtain ⟨Z, hZ⟩ : ∃ C, C = cells6 zero8 := ⟨_, rfl⟩
          have HC1 := Lib.hid hC1
          have HC2 := Lib.hid hC2
          have HZ := Lib.hid hZ
          have n1 : C1.length = l1.length := by rw [hC1]; simp [cells6]
          have n2 : C2.length = l2.length := by rw [hC2]; simp [cells6]
          have n3 : Z.length = 8 := by rw [hZ]; rfl
          clear hC1 hC2 hZ
          refine wpList_copy_splice rfl (.tmp 62) (.tmp 63) _ _ rfl 22 Tryz.underlying46 (by kernel_rfl) (some ⟨w4.heap.size, 0, none⟩) A1 8 8 l1.length c1 rfl rfl w4.heap.size 0 Z 23 (by rw [HZ.out]; exact heap_alloc_new w4 _) C1 (by rw [n1]; exact (Nat.min_eq_left (by omega)).symm) (fun hp => ⟨rfl, rowN_src HR1'.out HC1.out hp ((Below.refl w4.heap.size w4).alloc (Nat.le_refl _) _)⟩) (by rw [n1, n3]; omega) (by rw [HC1.out]; exact cells6_one l1) w4.heap.size w4 ((Below.refl w4.heap.size w4).alloc (Nat.le_refl _) _) (Nat.le_refl _) ?_
          intro w5 hg5 hb5
          have HG5 := hg5
          have HB5 := Lib.hid hb5
          clear hg5 hb5
          obtain ⟨oo, hoo, hsl⟩ : ∃ oo : Nat, (0 < l2.length → oo = 8 - l2.length) ∧ ∀ W, (Instr.sliceAt 23 (.pointer (some ⟨w4.heap.size, 0, none⟩)) (some (.int .i64 (8 - (l2.length : Int)))) none none).run Tryz.prog W = .ok (.slice (some ⟨w4.heap.size, oo, none⟩) l2.length l2.length) W := ⟨if l2.length = 0 then 0 else 8 - l2.length, fun h => if_neg (by omega), fun W => slice8 _ _ (by omega) W⟩
          go_wp2_with (with_reducible refine stop70 ?_)
          all_goals (
            refine stop_go ?_
            refine wpList_copy_splice rfl (.tmp 68) (.tmp 69) _ _ rfl 22 Tryz.underlying46 (by kernel_rfl) (some ⟨w4.heap.size, oo, none⟩) A2 l2.length l2.length l2.length c2 rfl rfl w4.heap.size (8 - l2.length) (splice Z 0 C1) 23 HG5.out C2 (by rw [n2]; exact (Nat.min_self _).symm) (fun hp => ⟨by rw [hoo (by omega)], rowN_src HR2.out HC2.out hp HB5.out⟩) (by rw [length_splice _ _ _ (by omega), n2, n3]; omega) (by rw [HC2.out]; exact cells6_one l2) w4.heap.size w4 HB5.out (Nat.le_refl _) ?_
            intro w6 hg6 hb6
            have HB6 := Lib.hid (belowOn HB4.out HB4.out.size hb6)
            have HO6 := Lib.hid (HO4.out.keep hb6)
            have hg := hg6.out
            rw [HZ.out, HC1.out, HC2.out, splice_six (by omega)] at hg
            obtain ⟨res, hres⟩ : ∃ res, res = l1 ++ List.replicate (8 - (l1.length + l2.length)) 0 ++ l2 := ⟨_, rfl⟩
            have hrl : res.length = 8 := by rw [hres]; simp; omega
            rw [← hres] at hg HN
            clear hres hg6 hb6
            match res, hrl with
            | [x0, x1, x2, x3, x4, x5, x6, x7], _ =>
              have HG6 := Lib.hid (show Blk w6 w4.heap.size 23 #[.int .u16 x0, .int .u16 x1, .int .u16 x2, .int .u16 x3, .int .u16 x4, .int .u16 x5, .int .u16 x6, .int .u16 x7] from hg)
              clear hg hrl
              have hb_0 : w6.cell? ⟨w4.heap.size, 0, none⟩ = some (.int .u16 x0) := HG6.out.cell 0
              have ho_0 : w6.cell? ⟨w.heap.size, 0, none⟩ = some (.int .u16 0) := HO6.out.cell 0
              have hb_1 : w6.cell? ⟨w4.heap.size, 1, none⟩ = some (.int .u16 x1) := HG6.out.cell 1
              have ho_1 : w6.cell? ⟨w.heap.size, 1, none⟩ = some (.int .u16 0) := HO6.out.cell 1
              have hb_2 : w6.cell? ⟨w4.heap.size, 2, none⟩ = some (.int .u16 x2) := HG6.out.cell 2
              have ho_2 : w6.cell? ⟨w.heap.size, 2, none⟩ = some (.int .u16 0) := HO6.out.cell 2
              have hb_3 : w6.cell? ⟨w4.heap.size, 3, none⟩ = some (.int .u16 x3) := HG6.out.cell 3
              have ho_3 : w6.cell? ⟨w.heap.size, 3, none⟩ = some (.int .u16 0) := HO6.out.cell 3
              have hb_4 : w6.cell? ⟨w4.heap.size, 4, none⟩ = some (.int .u16 x4) := HG6.out.cell 4
              have ho_4 : w6.cell? ⟨w.heap.size, 4, none⟩ = some (.int .u16 0) := HO6.out.cell 4
              have hb_5 : w6.cell? ⟨w4.heap.size, 5, none⟩ = some (.int .u16 x5) := HG6.out.cell 5
              have ho_5 : w6.cell? ⟨w.heap.size, 5, none⟩ = some (.int .u16 0) := HO6.out.cell 5
              have hb_6 : w6.cell? ⟨w4.heap.size, 6, none⟩ = some (.int .u16 x6) := HG6.out.cell 6
              have ho_6 : w6.cell? ⟨w.heap.size, 6, none⟩ = some (.int .u16 0) := HO6.out.cell 6
              have hb_7 : w6.cell? ⟨w4.heap.size, 7, none⟩ = some (.int .u16 x7) := HG6.out.cell 7
              have ho_7 : w6.cell? ⟨w.heap.size, 7, none⟩ = some (.int .u16 0) := HO6.out.cell 7
              have hof : ∀ i, w6.frozen? ⟨w.heap.size, i, none⟩ = false := fun i => HO6.out.frozen i
              go_wp2_with fail
              refine bodyPost_ret (results_cell_row2 rfl _ _ w.heap.size 23 _ (0, 0) _ rfl ((((((((HO6.out.set_ 0 _).set_ 1 _).set_ 2 _).set_ 3 _).set_ 4 _).set_ 5 _).set_ 6 _).set_ 7 _) Tryz.underlying23 rfl (by kernel_rfl)) rfl ?_
              rw [HN.out]
              exact ⟨rfl, ((((((((HB6.out.setCell (Nat.le_refl _) _).setCell (Nat.le_refl _) _).setCell (Nat.le_refl _) _).setCell (Nat.le_refl _) _).setCell (Nat.le_refl _) _).setCell (Nat.le_refl _) _).setCell (Nat.le_refl _) _).setCell (Nat.le_refl _) _)⟩)
        · have h8' : ¬ (l1.length : Int) + (l2.length : Int) = 8 := by omega
          have HN := Lib.hid (show R = none by rw [HP.out]; simp [ans6, h8])
          go_wp2_with fail
          refine bodyPost_ret (results_cell_row2 rfl _ _ w.heap.size 23 _ (0, 0) _ rfl ((((((((HO4.out.set_ 0 _).set_ 1 _).set_ 2 _).set_ 3 _).set_ 4 _).set_ 5 _).set_ 6 _).set_ 7 _) Tryz.underlying23 rfl (by kernel_rfl)) rfl ?_
          rw [HN.out]
          obtain ⟨l, hl⟩ := HE4.out
          exact ⟨⟨_, l, rfl, hl.mono fun g s v hg => by have hne := fail_far hg HO4.out; exact (fail_set (fail_set (fail_set (fail_set (fail_set (fail_set (fail_set (fail_set hg hne 0 _) hne 1 _) hne 2 _) hne 3 _) hne 4 _) hne 5 _) hne 6 _) hne 7 _)⟩, ((((((((HB4.out.setCell (Nat.le_refl _) _).setCell (Nat.le_refl _) _).setCell (Nat.le_refl _) _).setCell (Nat.le_refl _) _).setCell (Nat.le_refl _) _).setCell (Nat.le_refl _) _).setCell (Nat.le_refl _) _).setCell (Nat.le_refl _) _)⟩
      · by_cases h8 : l1.length + l2.length < 8
        · have h8' : ¬ 8 ≤ (l1.length : Int) + (l2.length : Int) := by omega
          have HN := Lib.hid (show R = some (l1 ++ List.replicate (8 - (l1.length + l2.length)) 0 ++ l2) by rw [HP.out]; simp [ans6, h8])
          clear hc_0 hc_1 hc_2 hc_3 hc_4 hc_5 hc_6 hc_7 hf_
          go_wp2_with (with_reducible refine stop64 ?_)
          refine stop_go ?_
          obtain ⟨C1, hC1⟩ : ∃ C, C = cells6 l1 := ⟨_, rfl⟩
          obtain ⟨C2, hC2⟩ : ∃ C, C = cells6 l2 := ⟨_, rfl⟩
          obtain ⟨Z, hZ⟩ : ∃ C, C = cells6 zero8 := ⟨_, rfl⟩
          have HC1 := Lib.hid hC1
          have HC2 := Lib.hid hC2
          have HZ := Lib.hid hZ
          have n1 : C1.length = l1.length := by rw [hC1]; simp [cells6]
          have n2 : C2.length = l2.length := by rw [hC2]; simp [cells6]
          have n3 : Z.length = 8 := by rw [hZ]; rfl
          clear hC1 hC2 hZ
          refine wpList_copy_splice rfl (.tmp 62) (.tmp 63) _ _ rfl 22 Tryz.underlying46 (by kernel_rfl) (some ⟨w4.heap.size, 0, none⟩) A1 8 8 l1.length c1 rfl rfl w4.heap.size 0 Z 23 (by rw [HZ.out]; exact heap_alloc_new w4 _) C1 (by rw [n1]; exact (Nat.min_eq_left (by omega)).symm) (fun hp => ⟨rfl, rowN_src HR1'.out HC1.out hp ((Below.refl w4.heap.size w4).alloc (Nat.le_refl _) _)⟩) (by rw [n1, n3]; omega) (by rw [HC1.out]; exact cells6_one l1) w4.heap.size w4 ((Below.refl w4.heap.size w4).alloc (Nat.le_refl _) _) (Nat.le_refl _) ?_
          intro w5 hg5 hb5
          have HG5 := hg5
          have HB5 := Lib.hid hb5
          clear hg5 hb5
          obtain ⟨oo, hoo, hsl⟩ : ∃ oo : Nat, (0 < l2.length → oo = 8 - l2.length) ∧ ∀ W, (Instr.sliceAt 23 (.pointer (some ⟨w4.heap.size, 0, none⟩)) (some (.int .i64 (8 - (l2.length : Int)))) none none).run Tryz.prog W = .ok (.slice (some ⟨w4.heap.size, oo, none⟩) l2.length l2.length) W := ⟨if l2.length = 0 then 0 else 8 - l2.length, fun h => if_neg (by omega), fun W => slice8 _ _ (by omega) W⟩
          go_wp2_with (with_reducible refine stop70 ?_)
          all_goals (
            refine stop_go ?_
            refine wpList_copy_splice rfl (.tmp 68) (.tmp 69) _ _ rfl 22 Tryz.underlying46 (by kernel_rfl) (some ⟨w4.heap.size, oo, none⟩) A2 l2.length l2.length l2.length c2 rfl rfl w4.heap.size (8 - l2.length) (splice Z 0 C1) 23 HG5.out C2 (by rw [n2]; exact (Nat.min_self _).symm) (fun hp => ⟨by rw [hoo (by omega)], rowN_src HR2.out HC2.out hp HB5.out⟩) (by rw [length_splice _ _ _ (by omega), n2, n3]; omega) (by rw [HC2.out]; exact cells6_one l2) w4.heap.size w4 HB5.out (Nat.le_refl _) ?_
            intro w6 hg6 hb6
            have HB6 := Lib.hid (belowOn HB4.out HB4.out.size hb6)
            have HO6 := Lib.hid (HO4.out.keep hb6)
            have hg := hg6.out
            rw [HZ.out, HC1.out, HC2.out, splice_six (by omega)] at hg
            obtain ⟨res, hres⟩ : ∃ res, res = l1 ++ List.replicate (8 - (l1.length + l2.length)) 0 ++ l2 := ⟨_, rfl⟩
            have hrl : res.length = 8 := by rw [hres]; simp; omega
            rw [← hres] at hg HN
            clear hres hg6 hb6
            match res, hrl with
            | [x0, x1, x2, x3, x4, x5, x6, x7], _ =>
              have HG6 := Lib.hid (show Blk w6 w4.heap.size 23 #[.int .u16 x0, .int .u16 x1, .int .u16 x2, .int .u16 x3, .int .u16 x4, .int .u16 x5, .int .u16 x6, .int .u16 x7] from hg)
              clear hg hrl
              have hb_0 : w6.cell? ⟨w4.heap.size, 0, none⟩ = some (.int .u16 x0) := HG6.out.cell 0
              have ho_0 : w6.cell? ⟨w.heap.size, 0, none⟩ = some (.int .u16 0) := HO6.out.cell 0
              have hb_1 : w6.cell? ⟨w4.heap.size, 1, none⟩ = some (.int .u16 x1) := HG6.out.cell 1
              have ho_1 : w6.cell? ⟨w.heap.size, 1, none⟩ = some (.int .u16 0) := HO6.out.cell 1
              have hb_2 : w6.cell? ⟨w4.heap.size, 2, none⟩ = some (.int .u16 x2) := HG6.out.cell 2
              have ho_2 : w6.cell? ⟨w.heap.size, 2, none⟩ = some (.int .u16 0) := HO6.out.cell 2
              have hb_3 : w6.cell? ⟨w4.heap.size, 3, none⟩ = some (.int .u16 x3) := HG6.out.cell 3
              have ho_3 : w6.cell? ⟨w.heap.size, 3, none⟩ = some (.int .u16 0) := HO6.out.cell 3
              have hb_4 : w6.cell? ⟨w4.heap.size, 4, none⟩ = some (.int .u16 x4) := HG6.out.cell 4
              have ho_4 : w6.cell? ⟨w.heap.size, 4, none⟩ = some (.int .u16 0) := HO6.out.cell 4
              have hb_5 : w6.cell? ⟨w4.heap.size, 5, none⟩ = some (.int .u16 x5) := HG6.out.cell 5
              have ho_5 : w6.cell? ⟨w.heap.size, 5, none⟩ = some (.int .u16 0) := HO6.out.cell 5
              have hb_6 : w6.cell? ⟨w4.heap.size, 6, none⟩ = some (.int .u16 x6) := HG6.out.cell 6
              have ho_6 : w6.cell? ⟨w.heap.size, 6, none⟩ = some (.int .u16 0) := HO6.out.cell 6
              have hb_7 : w6.cell? ⟨w4.heap.size, 7, none⟩ = some (.int .u16 x7) := HG6.out.cell 7
              have ho_7 : w6.cell? ⟨w.heap.size, 7, none⟩ = some (.int .u16 0) := HO6.out.cell 7
              have hof : ∀ i, w6.frozen? ⟨w.heap.size, i, none⟩ = false := fun i => HO6.out.frozen i
              go_wp2_with fail
              refine bodyPost_ret (results_cell_row2 rfl _ _ w.heap.size 23 _ (0, 0) _ rfl ((((((((HO6.out.set_ 0 _).set_ 1 _).set_ 2 _).set_ 3 _).set_ 4 _).set_ 5 _).set_ 6 _).set_ 7 _) Tryz.underlying23 rfl (by kernel_rfl)) rfl ?_
              rw [HN.out]
              exact ⟨rfl, ((((((((HB6.out.setCell (Nat.le_refl _) _).setCell (Nat.le_refl _) _).setCell (Nat.le_refl _) _).setCell (Nat.le_refl _) _).setCell (Nat.le_refl _) _).setCell (Nat.le_refl _) _).setCell (Nat.le_refl _) _).setCell (Nat.le_refl _) _)⟩)
        · have h8' : 8 ≤ (l1.length : Int) + (l2.length : Int) := by omega
          have HN := Lib.hid (show R = none by rw [HP.out]; simp [ans6, h8])
          go_wp2_with fail
          refine bodyPost_ret (results_cell_row2 rfl _ _ w.heap.size 23 _ (0, 0) _ rfl ((((((((HO4.out.set_ 0 _).set_ 1 _).set_ 2 _).set_ 3 _).set_ 4 _).set_ 5 _).set_ 6 _).set_ 7 _) Tryz.underlying23 rfl (by kernel_rfl)) rfl ?_
          rw [HN.out]
          obtain ⟨l, hl⟩ := HE4.out
          exact ⟨⟨_, l, rfl, hl.mono fun g s v hg => by have hne := fail_far hg HO4.out; exact (fail_set (fail_set (fail_set (fail_set (fail_set (fail_set (fail_set (fail_set hg hne 0 _) hne 1 _) hne 2 _) hne 3 _) hne 4 _) hne 5 _) hne 6 _) hne 7 _)⟩, ((((((((HB4.out.setCell (Nat.le_refl _) _).setCell (Nat.le_refl _) _).setCell (Nat.le_refl _) _).setCell (Nat.le_refl _) _).setCell (Nat.le_refl _) _).setCell (Nat.le_refl _) _).setCell (Nat.le_refl _) _).setCell (Nat.le_refl _) _)⟩
end Go.Proofs.YtodpjdeffhbkpaaGreatDoor
