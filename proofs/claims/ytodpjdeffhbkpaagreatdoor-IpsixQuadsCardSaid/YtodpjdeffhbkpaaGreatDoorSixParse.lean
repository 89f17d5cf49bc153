/- ipsix.Parse. -/
import Derived.Test.YtodpjdeffhbkpaaGreatDoorSixPieces
import Derived.Test.YtodpjdeffhbkpaaGreatDoorErr
import Derived.Laws.CopyOwn
set_option linter.unusedVariables false
set_option linter.unusedSimpArgs false
set_option maxRecDepth 100000
namespace Go.Proofs.YtodpjdeffhbkpaaGreatDoor
open Go.RowKit Four Six

/-! ### A text cut at a pair of colons -/
theorem index_cutL : ∀ l : List UInt8, (cutL l = none ∧ Lib.index l [58, 58] = -1) ∨ ∃ h t, cutL l = some (h, t) ∧ Lib.index l [58, 58] = (h.length : Int) ∧ l = h ++ (58 :: 58 :: t)
  | [] => .inl ⟨rfl, rfl⟩
  | c :: l => by
    by_cases hc : c = 58 ∧ l.head? = some 58
    · obtain ⟨rfl, hl⟩ := hc
      cases l with
      | nil => simp at hl
      | cons d l =>
        obtain rfl : d = 58 := by simpa using hl
        exact .inr ⟨[], l, by simp [cutL], by simp [Lib.index], rfl⟩
    · have hp : ([58, 58] : List UInt8).isPrefixOf (c :: l) = false := by
        cases l with
        | nil => simp [List.isPrefixOf]
        | cons d l =>
          simp only [List.head?_cons, Option.some.injEq] at hc
          simp only [List.isPrefixOf, Bool.and_eq_false_iff, beq_eq_false_iff_ne, ne_eq]
          by_cases h1 : c = 58
          · exact .inr (.inl fun e => hc ⟨h1, e.symm⟩)
          · exact .inl fun e => h1 e.symm
      rcases index_cutL l with ⟨e1, e2⟩ | ⟨h, t, e1, e2, e3⟩
      · exact .inl ⟨by rw [cutL, if_neg hc, e1]; rfl, by rw [Lib.index, hp, e2]; rfl⟩
      · refine .inr ⟨c :: h, t, by rw [cutL, if_neg hc, e1]; rfl, ?_, by rw [e3]; rfl⟩
        rw [Lib.index, hp, e2]
        have : ((h.length : Int) == -1) = false := by simp
        simp [this]
def cut3 (l : List UInt8) : List UInt8 × List UInt8 × Bool := match cutL l with
  | none => (l, [], false)
  | some p => (p.1, p.2, true)
theorem cut_is (l : List UInt8) : Lib.cut l [58, 58] = cut3 l := by
  unfold Lib.cut cut3
  rcases index_cutL l with ⟨e1, e2⟩ | ⟨h, t, e1, e2, e3⟩
  · rw [e1, e2]
    rfl
  · rw [e1, e2, if_pos (by omega)]
    simp only [Int.toNat_natCast, Prod.mk.injEq, and_true]
    constructor
    · rw [e3]; simp
    · conv => lhs; rw [e3]
      simp
theorem cut3_short (l : List UInt8) : (cut3 l).1.length ≤ l.length ∧ (cut3 l).2.1.length ≤ l.length := by
  unfold cut3
  rcases index_cutL l with ⟨e1, e2⟩ | ⟨h, t, e1, e2, e3⟩
  · rw [e1]; simp
  · rw [e1]
    have := congrArg List.length e3
    simp at this
    simp only
    omega
theorem cut_calls (s : ByteArray) {w : World} (hF : FW w) (hs : s.size ≤ 1000) :
    Calls Tryz.prog 18 #[.string s, .string ⟨#[58, 58]⟩] w fun e w' => e = .returned (.tuple #[.string (mkB (cut3 s.data.toList).1), .string (mkB (cut3 s.data.toList).2.1), .bool (cut3 s.data.toList).2.2]) ∧ Below w.heap.size w w' := by
  obtain ⟨m, hm⟩ := hF.ml
  refine (Tryz.strings_Cut s ⟨#[58, 58]⟩ m w (by omega) hm).mono ?_
  rintro e w' ⟨rfl, n, rfl⟩
  refine ⟨?_, below_drewN w n⟩
  rw [← cut_is]
  rfl
/-- The answer, of what is ahead and what is behind. -/
def ans6 (found : Bool) : Option (List Nat) → Option (List Nat) → Option (List Nat)
  | some a, some b => if (if found = true then a.length + b.length < 8 else a.length + b.length = 8) then some (a ++ List.replicate (8 - (a.length + b.length)) 0 ++ b) else none
  | _, _ => none
theorem parse6_is (l : List UInt8) : parse6 l = ans6 (cut3 l).2.2 (listL (cut3 l).1 (!(cut3 l).2.2)) (listL (cut3 l).2.1 true) := by
  unfold parse6 cut3
  cases cutL l with
  | none =>
    simp only [Bool.not_false]
    have e : listL [] true = some [] := rfl
    rw [e]
    cases listL l true with
    | none => rfl
    | some a =>
      simp only [ans6, Option.bind_some, List.length_nil, Nat.add_zero, List.append_nil]
      by_cases h : a.length = 8
      · rw [if_pos h]; simp [h]
      · rw [if_neg h]; simp [h]
  | some p =>
    simp only [Bool.not_true]
    cases listL p.1 false with
    | none => rfl
    | some a => cases listL p.2 true with
      | none => rfl
      | some b => simp [ans6]

/-! ### The parse -/
def cells6 (a : List Nat) : List Value := a.map fun (n : Nat) => .int .u16 n
def adr (a : List Nat) : Value := .agg (cells6 a).toArray
def zero8 : List Nat := [0, 0, 0, 0, 0, 0, 0, 0]
theorem splice_six {a b : List Nat} (h : a.length + b.length ≤ 8) : splice (splice (cells6 zero8) 0 (cells6 a)) (8 - b.length) (cells6 b) = cells6 (a ++ List.replicate (8 - (a.length + b.length)) 0 ++ b) := by
  have hz : cells6 zero8 = List.replicate 8 (.int .u16 0) := rfl
  have e1 : splice (cells6 zero8) 0 (cells6 a) = cells6 a ++ List.replicate (8 - a.length) (.int .u16 0) := by
    rw [hz]
    unfold splice
    rw [List.take_zero, List.nil_append, List.drop_replicate, show (cells6 a).length = a.length by simp [cells6], Nat.zero_add]
  rw [e1]
  unfold splice
  have ha : (cells6 a).length = a.length := by simp [cells6]
  have hb : (cells6 b).length = b.length := by simp [cells6]
  rw [hb, show 8 - b.length + b.length = 8 by omega, List.drop_eq_nil_of_le (by simp [ha]; omega), List.append_nil, List.take_append, ha, List.take_of_length_le (by omega), List.take_replicate, show min (8 - b.length - a.length) (8 - a.length) = 8 - (a.length + b.length) by omega]
  simp [cells6]
def PEnd6 (w0 : World) (r : Option (List Nat)) (e : Ending) (w : World) : Prop := (match r with
  | none => ∃ v l, e = .returned (.tuple #[adr zero8, v]) ∧ Chain w l v 2
  | some a => e = .returned (.tuple #[adr a, .nilIface])) ∧ Below w0.heap.size w0 w
theorem PRes.cases {w0 w : World} {r : Option (List Nat)} {e : Ending} (h : PRes w0 w r e) : ∃ A c l ok, e = .returned (.tuple #[.slice A l.length c, .bool ok]) ∧ RowAt numC 1 w A l ∧ l.length ≤ c ∧ r = (if ok = true then some l else none) ∧ (ok = false → l = []) := by
  cases r with
  | none => exact ⟨none, 0, [], false, h, fun i x hx => by simp at hx, Nat.le_refl _, rfl, fun _ => rfl⟩
  | some x =>
    obtain ⟨v, rfl, ho⟩ := h
    obtain ⟨A, c, rfl, hr, hc, _⟩ := ho.row (fun _ => rfl)
    exact ⟨A, c, x, true, rfl, hr, hc, rfl, fun e => by cases e⟩
theorem rowN_below {w w' : World} {A : Option Addr} {l : List Nat} {B : Nat} (h : RowAt numC 1 w A l) (hb : Below w.heap.size w w') : RowAt numC 1 w' A l := by
  intro i x hx
  obtain ⟨b, off, rfl, hc⟩ := h i x hx
  refine ⟨b, off, rfl, fun j u hu => ?_⟩
  have := hc j u hu
  exact (hb.cell (p := ⟨b, off + i * 1 + j, none⟩) (World.block_lt_of_cell? w _ this)).trans this

theorem stop64 {P : Program} {ops : Array Oper} {rest : List Oper} {a : Act} {w : World} {Q : Exit → Act → World → Prop} {a1 : Op} {a2 : TypeId} {a3 : String} {a4 : Array Edge} {a5 : Option (Nat × Bool)} (h : Stop (wpList P ops Q (⟨some 64, a1, a2, a3, a4, a5⟩ :: rest) a w)) : wpList P ops Q (⟨some 64, a1, a2, a3, a4, a5⟩ :: rest) a w := h
theorem stop70 {P : Program} {ops : Array Oper} {rest : List Oper} {a : Act} {w : World} {Q : Exit → Act → World → Prop} {a1 : Op} {a2 : TypeId} {a3 : String} {a4 : Array Edge} {a5 : Option (Nat × Bool)} (h : Stop (wpList P ops Q (⟨some 70, a1, a2, a3, a4, a5⟩ :: rest) a w)) : wpList P ops Q (⟨some 70, a1, a2, a3, a4, a5⟩ :: rest) a w := h
theorem cells6_one (l : List Nat) : ∀ v ∈ cells6 l, v.oneCell' = true := by
  intro v hv
  simp only [cells6, List.mem_map] at hv
  obtain ⟨n, _, rfl⟩ := hv
  rfl
theorem rowN_src {w w' : World} {A : Option Addr} {l : List Nat} {C : List Value} (h : RowAt numC 1 w A l) (hC : C = cells6 l) (hp : 0 < C.length) (hb : Below w.heap.size w w') : ∃ ad, A = some ad ∧ ∀ j v, C[j]? = some v → w'.cell? (ad.add j) = some v := by
  subst hC
  have hl : 0 < l.length := by simpa [cells6] using hp
  obtain ⟨b, off, rfl, _⟩ := h 0 l[0] (List.getElem?_eq_getElem hl)
  refine ⟨_, rfl, fun j v hj => ?_⟩
  simp only [cells6, List.getElem?_map, Option.map_eq_some_iff] at hj
  obtain ⟨n, hn, rfl⟩ := hj
  obtain ⟨b', off', e, hc⟩ := h j n hn
  cases e
  have := hc 0 (.int .u16 n) rfl
  have ea : ((⟨b, off, none⟩ : Addr).add j) = ⟨b, off + j * 1 + 0, none⟩ := by unfold Addr.add; split <;> simp_all
  rw [ea]
  exact (hb.cell (p := ⟨b, off + j * 1 + 0, none⟩) (World.block_lt_of_cell? w _ this)).trans this
theorem slice8 (g m : Nat) (hm : m ≤ 8) (W : World) : (Instr.sliceAt 23 (.pointer (some ⟨g, 0, none⟩)) (some (.int .i64 (8 - (m : Int)))) none none).run Tryz.prog W = .ok (.slice (some ⟨g, if m = 0 then 0 else 8 - m, none⟩) m m) W := by
  have hal : Tryz.prog.arrayLen 23 = 8 := by kernel_rfl
  have hel : Tryz.prog.elem 23 = 22 := by kernel_rfl
  have hso : (sizeOf 22).run Tryz.prog W = .ok 1 W := by
    have := info_u16
    obtain ⟨i, hi, hz⟩ := Option.map_eq_some_iff.1 this
    simp only [Prod.mk.injEq] at hz
    simp [sizeOf, typeInfo, hi, hz.2.1]
  rw [run_sliceAt_array_l W 23 ⟨g, 0, none⟩ (by rw [hal, hel]; exact Tryz.underlying23) .i64 (8 - (m : Int)) (by omega) (by rw [hal]; omega), hal, hel, hso]
  have e : (8 - (m : Int)).toNat = 8 - m := by omega
  rw [e]
  simp only [Result.andThen_ok, slicedAt]
  by_cases h0 : m = 0
  · subst h0
    simp
  · rw [if_neg h0, if_neg (by omega)]
    simp [Addr.add]
    omega
theorem fail_far {w : World} {g b : Nat} {s : ByteArray} {v : Value} {cs : Array Value} (hg : w.heap[g]? = some (.cells #[.string s, v] 62 (0, 0))) (hb : Blk w b 23 cs) : g ≠ b := by
  rintro rfl
  unfold Blk at hb
  rw [hb] at hg
  injection hg with hg
  injection hg with _ ht
  exact absurd ht (by decide)
theorem fail_set {w : World} {g b : Nat} {s : ByteArray} {v : Value} (hg : w.heap[g]? = some (.cells #[.string s, v] 62 (0, 0))) (hne : g ≠ b) (i : Nat) (u : Value) : (w.setCell ⟨b, i, none⟩ u).heap[g]? = some (.cells #[.string s, v] 62 (0, 0)) := (Below.heap_setCell w ⟨b, i, none⟩ u g hne).trans hg
set_option maxHeartbeats 8000000 in
theorem parse_calls (s : ByteArray) {w : World} (hF : FW w) (hs : s.size ≤ 1000) :
    Calls Tryz.prog 11 #[.string s] w (PEnd6 w (parse6 s.data.toList)) := by
  have hsz : s.data.toList.length = s.size := by simp
  have hcs := cut3_short s.data.toList
  have HP := Lib.hid (parse6_is s.data.toList)
  have HF := Lib.hid hF
  have HC := Lib.hid (fun (W : World) (h : Below w.heap.size w W) => cut_calls s (hF.keep h) hs)
  clear hF
  generalize parse6 s.data.toList = R at HP ⊢
  generalize cut3 s.data.toList = K at *
  obtain ⟨h, t, found⟩ := K
  simp only at HP HC hcs
  have h1 : h.length ≤ 1000 := by omega
  have h2 : t.length ≤ 1000 := by omega
  have HA := Lib.hid (fun (W : World) (hb : Below w.heap.size w W) => pieces_calls (mkB h) (!found) (HF.out.keep hb) (by rw [mkB_size]; exact h1))
  have HB := Lib.hid (fun (W : World) (hb : Below w.heap.size w W) => pieces_calls (mkB t) true (HF.out.keep hb) (by rw [mkB_size]; exact h2))
  rw [mkB_data] at HA HB
  have HL1 := Lib.hid (fun (x : List Nat) (e : listL h (!found) = some x) => Nat.le_trans (listL_bound e).2 (show 2 * (h.length + 1) ≤ 2002 by omega))
  have HL2 := Lib.hid (fun (x : List Nat) (e : listL t true = some x) => Nat.le_trans (listL_bound e).2 (show 2 * (t.length + 1) ≤ 2002 by omega))
  clear hsz hcs h1 h2
  go_enter Tryz.func11, Tryz.ntmps11
  go_wp2_with fail
  refine (wrap_some _ _ _ _).mono ?_
  rintro e w1 ⟨rfl, hw1⟩
  have HB1 := Lib.hid (show Below w.heap.size w w1 from hw1 ▸ (((Below.refl w.heap.size w).alloc (Nat.le_refl _) _).alloc (by simp) _))
  have HO1 := Lib.hid (show Blk w1 w.heap.size 23 #[.int .u16 0, .int .u16 0, .int .u16 0, .int .u16 0, .int .u16 0, .int .u16 0, .int .u16 0, .int .u16 0] from hw1 ▸ (Blk.new w _ _).alloc _)
  have HE1 := Lib.hid (show ∃ l, Chain w1 l (.iface 60 (.pointer (some ⟨w.heap.size + 1, 0, none⟩))) 2 from ⟨[_], .fail _ _ _ _ _ (by rw [← hw1]; have := heap_alloc_new (w.alloc (.cells #[.int .u16 0, .int .u16 0, .int .u16 0, .int .u16 0, .int .u16 0, .int .u16 0, .int .u16 0, .int .u16 0] 23)) (.cells #[.string ⟨#[105, 112, 115, 105, 120]⟩, .iface 35 (.int .i64 2)] 62); simpa using this) (.num 2)⟩)
  clear hw1
  go_wp2_with fail
  refine (HC.out w1 HB1.out).mono ?_
  rintro e w2 ⟨rfl, hb⟩
  have HB2 := Lib.hid (belowOn HB1.out HB1.out.size hb)
  have HK2 := Lib.hid hb
  clear hb
  go_wp2_with fail
  refine (HA.out w2 HB2.out).mono ?_
  rintro e w3 ⟨hres, hb⟩
  obtain ⟨A1, c1, l1, ok1, rfl, hr1, hc1, hv1, hn1⟩ := PRes.cases hres
  have HR1 := Lib.hid hr1
  have HV1 := Lib.hid hv1
  have HB3 := Lib.hid (belowOn HB2.out HB2.out.size hb)
  have HK3 := Lib.hid (belowOn HK2.out HK2.out.size hb)
  have hl1 : l1.length ≤ 2002 := by
    cases ok1 with
    | true => exact HL1.out _ hv1
    | false => rw [hn1 rfl]; simp
  clear hb hres hr1 hv1 hn1 HA HC HL1
  go_wp2_with fail
  refine (HB.out w3 HB3.out).mono ?_
  rintro e w4 ⟨hres, hb⟩
  obtain ⟨A2, c2, l2, ok2, rfl, hr2, hc2, hv2, hn2⟩ := PRes.cases hres
  have HR2 := Lib.hid hr2
  have HV2 := Lib.hid hv2
  have HR1' := Lib.hid (rowN_below (B := 0) HR1.out hb)
  have HB4 := Lib.hid (belowOn HB3.out HB3.out.size hb)
  have HK4 := Lib.hid (belowOn HK3.out HK3.out.size hb)
  have hl2 : l2.length ≤ 2002 := by
    cases ok2 with
    | true => exact HL2.out _ hv2
    | false => rw [hn2 rfl]; simp
  clear hb hres hr2 hv2 hn2 HB HR1 HL2
  have HO4 := Lib.hid (HO1.out.keep HK4.out)
  have HE4 := Lib.hid (show ∃ l, Chain w4 l (.iface 60 (.pointer (some ⟨w.heap.size + 1, 0, none⟩))) 2 from by
    obtain ⟨l, hl⟩ := HE1.out
    exact ⟨l, hl.mono fun g s v hg => (HK4.out.block g (Array.getElem?_eq_some_iff.1 hg).1).trans hg⟩)
  clear HO1 HE1
  rw [HV1.out, HV2.out] at HP
  clear HV1 HV2
  have hc_0 : w4.cell? ⟨w.heap.size, 0, none⟩ = some (.int .u16 0) := HO4.out.cell 0
  have hc_1 : w4.cell? ⟨w.heap.size, 1, none⟩ = some (.int .u16 0) := HO4.out.cell 1
  have hc_2 : w4.cell? ⟨w.heap.size, 2, none⟩ = some (.int .u16 0) := HO4.out.cell 2
  have hc_3 : w4.cell? ⟨w.heap.size, 3, none⟩ = some (.int .u16 0) := HO4.out.cell 3
  have hc_4 : w4.cell? ⟨w.heap.size, 4, none⟩ = some (.int .u16 0) := HO4.out.cell 4
  have hc_5 : w4.cell? ⟨w.heap.size, 5, none⟩ = some (.int .u16 0) := HO4.out.cell 5
  have hc_6 : w4.cell? ⟨w.heap.size, 6, none⟩ = some (.int .u16 0) := HO4.out.cell 6
  have hc_7 : w4.cell? ⟨w.heap.size, 7, none⟩ = some (.int .u16 0) := HO4.out.cell 7
  have hf_ : ∀ i, w4.frozen? ⟨w.heap.size, i, none⟩ = false := fun i => HO4.out.frozen i
  rcases ok1 with _ | _
  · simp only [Bool.false_eq_true, if_false] at HP
    have HN := Lib.hid (show R = none by rw [HP.out]; rfl)
    go_wp2_with fail
    refine bodyPost_ret (results_cell_row2 rfl _ _ w.heap.size 23 _ (0, 0) _ rfl ((((((((HO4.out.set_ 0 _).set_ 1 _).set_ 2 _).set_ 3 _).set_ 4 _).set_ 5 _).set_ 6 _).set_ 7 _) Tryz.underlying23 rfl (by kernel_rfl)) rfl ?_
    rw [HN.out]
    obtain ⟨l, hl⟩ := HE4.out
    exact ⟨⟨_, l, rfl, hl.mono fun g s v hg => by have hne := fail_far hg HO4.out; exact (fail_set (fail_set (fail_set (fail_set (fail_set (fail_set (fail_set (fail_set hg hne 0 _) hne 1 _) hne 2 _) hne 3 _) hne 4 _) hne 5 _) hne 6 _) hne 7 _)⟩, ((((((((HB4.out.setCell (Nat.le_refl _) _).setCell (Nat.le_refl _) _).setCell (Nat.le_refl _) _).setCell (Nat.le_refl _) _).setCell (Nat.le_refl _) _).setCell (Nat.le_refl _) _).setCell (Nat.le_refl _) _).setCell (Nat.le_refl _) _)⟩
  · rcases ok2 with _ | _
    · simp only [Bool.false_eq_true, if_false, if_true] at HP
      have HN := Lib.hid (show R = none by rw [HP.out]; rfl)
      go_wp2_with fail
      refine bodyPost_ret (results_cell_row2 rfl _ _ w.heap.size 23 _ (0, 0) _ rfl ((((((((HO4.out.set_ 0 _).set_ 1 _).set_ 2 _).set_ 3 _).set_ 4 _).set_ 5 _).set_ 6 _).set_ 7 _) Tryz.underlying23 rfl (by kernel_rfl)) rfl ?_
      rw [HN.out]
      obtain ⟨l, hl⟩ := HE4.out
      exact ⟨⟨_, l, rfl, hl.mono fun g s v hg => by have hne := fail_far hg HO4.out; exact (fail_set (fail_set (fail_set (fail_set (fail_set (fail_set (fail_set (fail_set hg hne 0 _) hne 1 _) hne 2 _) hne 3 _) hne 4 _) hne 5 _) hne 6 _) hne 7 _)⟩, ((((((((HB4.out.setCell (Nat.le_refl _) _).setCell (Nat.le_refl _) _).setCell (Nat.le_refl _) _).setCell (Nat.le_refl _) _).setCell (Nat.le_refl _) _).setCell (Nat.le_refl _) _).setCell (Nat.le_refl _) _).setCell (Nat.le_refl _) _)⟩
    · simp only [if_true] at HP
      rcases found with _ | _
      · by_cases h8 : l1.length + l2.length = 8
        · have h8' : (l1.length : Int) + (l2.length : Int) = 8 := by omega
          have HN := Lib.hid (show R = some (l1 ++ List.replicate (8 - (l1.length + l2.length)) 0 ++ l2) by rw [HP.out]; simp [ans6, h8])
          clear hc_0 hc_1 hc_2 hc_3 hc_4 hc_5 hc_6 hc_7 hf_
          go_wp2_with (with_reducible refine stop64 ?_)
          refine stop_go ?_
          obtain ⟨C1, hC1⟩ : ∃ C, C = cells6 l1 := ⟨_, rfl⟩
          obtain ⟨C2, hC2⟩ : ∃ C, C = cells6 l2 := ⟨_, rfl⟩
          obtain ⟨Z, hZ⟩ : ∃ C, C = cells6 zero8 := ⟨_, rfl⟩
          have HC1 := Lib.hid hC1
          have HC2 := Lib.hid hC2
          have HZ := Lib.hid hZ
          have n1 : C1.length = l1.length := by rw [hC1]; simp [cells6]
          have n2 : C2.length = l2.length := by rw [hC2]; simp [cells6]
          have n3 : Z.length = 8 := by rw [hZ]; rfl
          clear hC1 hC2 hZ
          refine wpList_copy_splice rfl (.tmp 62) (.tmp 63) _ _ rfl 22 Tryz.underlying46 (by kernel_rfl) (some ⟨w4.heap.size, 0, none⟩) A1 8 8 l1.length c1 rfl rfl w4.heap.size 0 Z 23 (by rw [HZ.out]; exact heap_alloc_new w4 _) C1 (by rw [n1]; exact (Nat.min_eq_left (by omega)).symm) (fun hp => ⟨rfl, rowN_src HR1'.out HC1.out hp ((Below.refl w4.heap.size w4).alloc (Nat.le_refl _) _)⟩) (by rw [n1, n3]; omega) (by rw [HC1.out]; exact cells6_one l1) w4.heap.size w4 ((Below.refl w4.heap.size w4).alloc (Nat.le_refl _) _) (Nat.le_refl _) ?_
          intro w5 hg5 hb5
          have HG5 := hg5
          have HB5 := Lib.hid hb5
          clear hg5 hb5
          obtain ⟨oo, hoo, hsl⟩ : ∃ oo : Nat, (0 < l2.length → oo = 8 - l2.length) ∧ ∀ W, (Instr.sliceAt 23 (.pointer (some ⟨w4.heap.size, 0, none⟩)) (some (.int .i64 (8 - (l2.length : Int)))) none none).run Tryz.prog W = .ok (.slice (some ⟨w4.heap.size, oo, none⟩) l2.length l2.length) W := ⟨if l2.length = 0 then 0 else 8 - l2.length, fun h => if_neg (by omega), fun W => slice8 _ _ (by omega) W⟩
          go_wp2_with (with_reducible refine stop70 ?_)
          all_goals (
            refine stop_go ?_
            refine wpList_copy_splice rfl (.tmp 68) (.tmp 69) _ _ rfl 22 Tryz.underlying46 (by kernel_rfl) (some ⟨w4.heap.size, oo, none⟩) A2 l2.length l2.length l2.length c2 rfl rfl w4.heap.size (8 - l2.length) (splice Z 0 C1) 23 HG5.out C2 (by rw [n2]; exact (Nat.min_self _).symm) (fun hp => ⟨by rw [hoo (by omega)], rowN_src HR2.out HC2.out hp HB5.out⟩) (by rw [length_splice _ _ _ (by omega), n2, n3]; omega) (by rw [HC2.out]; exact cells6_one l2) w4.heap.size w4 HB5.out (Nat.le_refl _) ?_
            intro w6 hg6 hb6
            have HB6 := Lib.hid (belowOn HB4.out HB4.out.size hb6)
            have HO6 := Lib.hid (HO4.out.keep hb6)
            have hg := hg6.out
            rw [HZ.out, HC1.out, HC2.out, splice_six (by omega)] at hg
            obtain ⟨res, hres⟩ : ∃ res, res = l1 ++ List.replicate (8 - (l1.length + l2.length)) 0 ++ l2 := ⟨_, rfl⟩
            have hrl : res.length = 8 := by rw [hres]; simp; omega
            rw [← hres] at hg HN
            clear hres hg6 hb6
            match res, hrl with
            | [x0, x1, x2, x3, x4, x5, x6, x7], _ =>
              have HG6 := Lib.hid (show Blk w6 w4.heap.size 23 #[.int .u16 x0, .int .u16 x1, .int .u16 x2, .int .u16 x3, .int .u16 x4, .int .u16 x5, .int .u16 x6, .int .u16 x7] from hg)
              clear hg hrl
              have hb_0 : w6.cell? ⟨w4.heap.size, 0, none⟩ = some (.int .u16 x0) := HG6.out.cell 0
              have ho_0 : w6.cell? ⟨w.heap.size, 0, none⟩ = some (.int .u16 0) := HO6.out.cell 0
              have hb_1 : w6.cell? ⟨w4.heap.size, 1, none⟩ = some (.int .u16 x1) := HG6.out.cell 1
              have ho_1 : w6.cell? ⟨w.heap.size, 1, none⟩ = some (.int .u16 0) := HO6.out.cell 1
              have hb_2 : w6.cell? ⟨w4.heap.size, 2, none⟩ = some (.int .u16 x2) := HG6.out.cell 2
              have ho_2 : w6.cell? ⟨w.heap.size, 2, none⟩ = some (.int .u16 0) := HO6.out.cell 2
              have hb_3 : w6.cell? ⟨w4.heap.size, 3, none⟩ = some (.int .u16 x3) := HG6.out.cell 3
              have ho_3 : w6.cell? ⟨w.heap.size, 3, none⟩ = some (.int .u16 0) := HO6.out.cell 3
              have hb_4 : w6.cell? ⟨w4.heap.size, 4, none⟩ = some (.int .u16 x4) := HG6.out.cell 4
              have ho_4 : w6.cell? ⟨w.heap.size, 4, none⟩ = some (.int .u16 0) := HO6.out.cell 4
              have hb_5 : w6.cell? ⟨w4.heap.size, 5, none⟩ = some (.int .u16 x5) := HG6.out.cell 5
              have ho_5 : w6.cell? ⟨w.heap.size, 5, none⟩ = some (.int .u16 0) := HO6.out.cell 5
              have hb_6 : w6.cell? ⟨w4.heap.size, 6, none⟩ = some (.int .u16 x6) := HG6.out.cell 6
              have ho_6 : w6.cell? ⟨w.heap.size, 6, none⟩ = some (.int .u16 0) := HO6.out.cell 6
              have hb_7 : w6.cell? ⟨w4.heap.size, 7, none⟩ = some (.int .u16 x7) := HG6.out.cell 7
              have ho_7 : w6.cell? ⟨w.heap.size, 7, none⟩ = some (.int .u16 0) := HO6.out.cell 7
              have hof : ∀ i, w6.frozen? ⟨w.heap.size, i, none⟩ = false := fun i => HO6.out.frozen i
              go_wp2_with fail
              refine bodyPost_ret (results_cell_row2 rfl _ _ w.heap.size 23 _ (0, 0) _ rfl ((((((((HO6.out.set_ 0 _).set_ 1 _).set_ 2 _).set_ 3 _).set_ 4 _).set_ 5 _).set_ 6 _).set_ 7 _) Tryz.underlying23 rfl (by kernel_rfl)) rfl ?_
              rw [HN.out]
              exact ⟨rfl, ((((((((HB6.out.setCell (Nat.le_refl _) _).setCell (Nat.le_refl _) _).setCell (Nat.le_refl _) _).setCell (Nat.le_refl _) _).setCell (Nat.le_refl _) _).setCell (Nat.le_refl _) _).setCell (Nat.le_refl _) _).setCell (Nat.le_refl _) _)⟩)
        · have h8' : ¬ (l1.length : Int) + (l2.length : Int) = 8 := by omega
          have HN := Lib.hid (show R = none by rw [HP.out]; simp [ans6, h8])
          go_wp2_with fail
          refine bodyPost_ret (results_cell_row2 rfl _ _ w.heap.size 23 _ (0, 0) _ rfl ((((((((HO4.out.set_ 0 _).set_ 1 _).set_ 2 _).set_ 3 _).set_ 4 _).set_ 5 _).set_ 6 _).set_ 7 _) Tryz.underlying23 rfl (by kernel_rfl)) rfl ?_
          rw [HN.out]
          obtain ⟨l, hl⟩ := HE4.out
          exact ⟨⟨_, l, rfl, hl.mono fun g s v hg => by have hne := fail_far hg HO4.out; exact (fail_set (fail_set (fail_set (fail_set (fail_set (fail_set (fail_set (fail_set hg hne 0 _) hne 1 _) hne 2 _) hne 3 _) hne 4 _) hne 5 _) hne 6 _) hne 7 _)⟩, ((((((((HB4.out.setCell (Nat.le_refl _) _).setCell (Nat.le_refl _) _).setCell (Nat.le_refl _) _).setCell (Nat.le_refl _) _).setCell (Nat.le_refl _) _).setCell (Nat.le_refl _) _).setCell (Nat.le_refl _) _).setCell (Nat.le_refl _) _)⟩
      · by_cases h8 : l1.length + l2.length < 8
        · have h8' : ¬ 8 ≤ (l1.length : Int) + (l2.length : Int) := by omega
          have HN := Lib.hid (show R = some (l1 ++ List.replicate (8 - (l1.length + l2.length)) 0 ++ l2) by rw [HP.out]; simp [ans6, h8])
          clear hc_0 hc_1 hc_2 hc_3 hc_4 hc_5 hc_6 hc_7 hf_
          go_wp2_with (with_reducible refine stop64 ?_)
          refine stop_go ?_
          obtain ⟨C1, hC1⟩ : ∃ C, C = cells6 l1 := ⟨_, rfl⟩
          obtain ⟨C2, hC2⟩ : ∃ C, C = cells6 l2 := ⟨_, rfl⟩
          obtain ⟨Z, hZ⟩ : ∃ C, C = cells6 zero8 := ⟨_, rfl⟩
          have HC1 := Lib.hid hC1
          have HC2 := Lib.hid hC2
          have HZ := Lib.hid hZ
          have n1 : C1.length = l1.length := by rw [hC1]; simp [cells6]
          have n2 : C2.length = l2.length := by rw [hC2]; simp [cells6]
          have n3 : Z.length = 8 := by rw [hZ]; rfl
          clear hC1 hC2 hZ
          refine wpList_copy_splice rfl (.tmp 62) (.tmp 63) _ _ rfl 22 Tryz.underlying46 (by kernel_rfl) (some ⟨w4.heap.size, 0, none⟩) A1 8 8 l1.length c1 rfl rfl w4.heap.size 0 Z 23 (by rw [HZ.out]; exact heap_alloc_new w4 _) C1 (by rw [n1]; exact (Nat.min_eq_left (by omega)).symm) (fun hp => ⟨rfl, rowN_src HR1'.out HC1.out hp ((Below.refl w4.heap.size w4).alloc (Nat.le_refl _) _)⟩) (by rw [n1, n3]; omega) (by rw [HC1.out]; exact cells6_one l1) w4.heap.size w4 ((Below.refl w4.heap.size w4).alloc (Nat.le_refl _) _) (Nat.le_refl _) ?_
          intro w5 hg5 hb5
          have HG5 := hg5
          have HB5 := Lib.hid hb5
          clear hg5 hb5
          obtain ⟨oo, hoo, hsl⟩ : ∃ oo : Nat, (0 < l2.length → oo = 8 - l2.length) ∧ ∀ W, (Instr.sliceAt 23 (.pointer (some ⟨w4.heap.size, 0, none⟩)) (some (.int .i64 (8 - (l2.length : Int)))) none none).run Tryz.prog W = .ok (.slice (some ⟨w4.heap.size, oo, none⟩) l2.length l2.length) W := ⟨if l2.length = 0 then 0 else 8 - l2.length, fun h => if_neg (by omega), fun W => slice8 _ _ (by omega) W⟩
          go_wp2_with (with_reducible refine stop70 ?_)
          all_goals (
            refine stop_go ?_
            refine wpList_copy_splice rfl (.tmp 68) (.tmp 69) _ _ rfl 22 Tryz.underlying46 (by kernel_rfl) (some ⟨w4.heap.size, oo, none⟩) A2 l2.length l2.length l2.length c2 rfl rfl w4.heap.size (8 - l2.length) (splice Z 0 C1) 23 HG5.out C2 (by rw [n2]; exact (Nat.min_self _).symm) (fun hp => ⟨by rw [hoo (by omega)], rowN_src HR2.out HC2.out hp HB5.out⟩) (by rw [length_splice _ _ _ (by omega), n2, n3]; omega) (by rw [HC2.out]; exact cells6_one l2) w4.heap.size w4 HB5.out (Nat.le_refl _) ?_
            intro w6 hg6 hb6
            have HB6 := Lib.hid (belowOn HB4.out HB4.out.size hb6)
            have HO6 := Lib.hid (HO4.out.keep hb6)
            have hg := hg6.out
            rw [HZ.out, HC1.out, HC2.out, splice_six (by omega)] at hg
            obtain ⟨res, hres⟩ : ∃ res, res = l1 ++ List.replicate (8 - (l1.length + l2.length)) 0 ++ l2 := ⟨_, rfl⟩
            have hrl : res.length = 8 := by rw [hres]; simp; omega
            rw [← hres] at hg HN
            clear hres hg6 hb6
            match res, hrl with
            | [x0, x1, x2, x3, x4, x5, x6, x7], _ =>
              have HG6 := Lib.hid (show Blk w6 w4.heap.size 23 #[.int .u16 x0, .int .u16 x1, .int .u16 x2, .int .u16 x3, .int .u16 x4, .int .u16 x5, .int .u16 x6, .int .u16 x7] from hg)
              clear hg hrl
              have hb_0 : w6.cell? ⟨w4.heap.size, 0, none⟩ = some (.int .u16 x0) := HG6.out.cell 0
              have ho_0 : w6.cell? ⟨w.heap.size, 0, none⟩ = some (.int .u16 0) := HO6.out.cell 0
              have hb_1 : w6.cell? ⟨w4.heap.size, 1, none⟩ = some (.int .u16 x1) := HG6.out.cell 1
              have ho_1 : w6.cell? ⟨w.heap.size, 1, none⟩ = some (.int .u16 0) := HO6.out.cell 1
              have hb_2 : w6.cell? ⟨w4.heap.size, 2, none⟩ = some (.int .u16 x2) := HG6.out.cell 2
              have ho_2 : w6.cell? ⟨w.heap.size, 2, none⟩ = some (.int .u16 0) := HO6.out.cell 2
              have hb_3 : w6.cell? ⟨w4.heap.size, 3, none⟩ = some (.int .u16 x3) := HG6.out.cell 3
              have ho_3 : w6.cell? ⟨w.heap.size, 3, none⟩ = some (.int .u16 0) := HO6.out.cell 3
              have hb_4 : w6.cell? ⟨w4.heap.size, 4, none⟩ = some (.int .u16 x4) := HG6.out.cell 4
              have ho_4 : w6.cell? ⟨w.heap.size, 4, none⟩ = some (.int .u16 0) := HO6.out.cell 4
              have hb_5 : w6.cell? ⟨w4.heap.size, 5, none⟩ = some (.int .u16 x5) := HG6.out.cell 5
              have ho_5 : w6.cell? ⟨w.heap.size, 5, none⟩ = some (.int .u16 0) := HO6.out.cell 5
              have hb_6 : w6.cell? ⟨w4.heap.size, 6, none⟩ = some (.int .u16 x6) := HG6.out.cell 6
              have ho_6 : w6.cell? ⟨w.heap.size, 6, none⟩ = some (.int .u16 0) := HO6.out.cell 6
              have hb_7 : w6.cell? ⟨w4.heap.size, 7, none⟩ = some (.int .u16 x7) := HG6.out.cell 7
              have ho_7 : w6.cell? ⟨w.heap.size, 7, none⟩ = some (.int .u16 0) := HO6.out.cell 7
              have hof : ∀ i, w6.frozen? ⟨w.heap.size, i, none⟩ = false := fun i => HO6.out.frozen i
              go_wp2_with fail
              refine bodyPost_ret (results_cell_row2 rfl _ _ w.heap.size 23 _ (0, 0) _ rfl ((((((((HO6.out.set_ 0 _).set_ 1 _).set_ 2 _).set_ 3 _).set_ 4 _).set_ 5 _).set_ 6 _).set_ 7 _) Tryz.underlying23 rfl (by kernel_rfl)) rfl ?_
              rw [HN.out]
              exact ⟨rfl, ((((((((HB6.out.setCell (Nat.le_refl _) _).setCell (Nat.le_refl _) _).setCell (Nat.le_refl _) _).setCell (Nat.le_refl _) _).setCell (Nat.le_refl _) _).setCell (Nat.le_refl _) _).setCell (Nat.le_refl _) _).setCell (Nat.le_refl _) _)⟩)
        · have h8' : 8 ≤ (l1.length : Int) + (l2.length : Int) := by omega
          have HN := Lib.hid (show R = none by rw [HP.out]; simp [ans6, h8])
          go_wp2_with fail
          refine bodyPost_ret (results_cell_row2 rfl _ _ w.heap.size 23 _ (0, 0) _ rfl ((((((((HO4.out.set_ 0 _).set_ 1 _).set_ 2 _).set_ 3 _).set_ 4 _).set_ 5 _).set_ 6 _).set_ 7 _) Tryz.underlying23 rfl (by kernel_rfl)) rfl ?_
          rw [HN.out]
          obtain ⟨l, hl⟩ := HE4.out
          exact ⟨⟨_, l, rfl, hl.mono fun g s v hg => by have hne := fail_far hg HO4.out; exact (fail_set (fail_set (fail_set (fail_set (fail_set (fail_set (fail_set (fail_set hg hne 0 _) hne 1 _) hne 2 _) hne 3 _) hne 4 _) hne 5 _) hne 6 _) hne 7 _)⟩, ((((((((HB4.out.setCell (Nat.le_refl _) _).setCell (Nat.le_refl _) _).setCell (Nat.le_refl _) _).setCell (Nat.le_refl _) _).setCell (Nat.le_refl _) _).setCell (Nat.le_refl _) _).setCell (Nat.le_refl _) _).setCell (Nat.le_refl _) _)⟩
end Go.Proofs.YtodpjdeffhbkpaaGreatDoor
