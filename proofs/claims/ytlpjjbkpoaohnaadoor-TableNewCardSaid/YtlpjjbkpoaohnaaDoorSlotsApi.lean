/- (*Slots).Add, Drop, Count, Take, Live, Left, in one form each. -/
import Derived.Test.YtlpjjbkpoaohnaaDoorSlotsWith
set_option linter.unusedVariables false
set_option linter.unusedSimpArgs false
namespace Go.Proofs.YtlpjjbkpoaohnaaDoor
open Go.RowKit Slots

namespace Slots
/-- No number of the state is out of bounds. -/
structure Fine (s : St) : Prop where
  cell : ∀ (i : Nat) (c : Cell), s.sl[i]? = some c → (0 ≤ c.count ∧ c.count ≤ 999999) ∧ (0 ≤ c.gen ∧ c.gen ≤ 999999)
  left : 0 ≤ s.left ∧ s.left ≤ 999999
  live : 0 ≤ s.live ∧ s.live ≤ 999999
  head : s.left ≠ 0 → ∃ n : Nat, s.head = n ∧ n < s.sl.length
/-- An error of this layer, or none. -/
def ErrV (w : World) (B : ByteArray) : Option Int → Value → Prop
  | none, v => v = .nilIface
  | some c, v => Chain w [B] v c
def st (s : St) (a : Int × Int) : Option Int := if s.ok a then none else some 7
theorem turn_bad {s : St} {a : Int × Int} (h : ¬ s.ok a) (d : Int) : s.turn a d = (s, none) := by unfold St.turn; rw [if_neg h]
theorem turn_ok {s : St} {n : Nat} {c : Cell} (hc : s.sl[n]? = some c) (h0 : c.count ≠ 0) (d : Int) :
    s.turn ((n : Int), c.gen) d = (if c.count + d = 0 then ({ s with sl := s.sl.set n ⟨c.gen, c.count + d, c.next⟩ } : St).freed n else { s with sl := s.sl.set n ⟨c.gen, c.count + d, c.next⟩ }, some (c.count + d)) := by
  have hlen : n < s.sl.length := (List.getElem?_eq_some_iff.1 hc).1
  have hget : s.get n = c := by unfold St.get; rw [Int.toNat_natCast, hc]; rfl
  have hok : s.ok ((n : Int), c.gen) := ⟨by show (0 : Int) ≤ n; omega, by show (n : Int) < _; omega, by show (s.get n).count ≠ 0; rw [hget]; exact h0, by show (s.get n).gen = c.gen; rw [hget]⟩
  unfold St.turn
  rw [if_pos hok]
  simp only [hget, Int.toNat_natCast]
theorem ok_cell {s : St} {a : Int × Int} (h : s.ok a) : ∃ (n : Nat) (c : Cell), a = ((n : Int), c.gen) ∧ s.sl[n]? = some c ∧ c.count ≠ 0 := by
  obtain ⟨i, gen⟩ := a
  obtain ⟨h0, h1, h2, h3⟩ := h
  simp only at h0 h1 h2 h3
  obtain ⟨n, rfl⟩ := Int.eq_ofNat_of_zero_le h0
  obtain ⟨c, hc⟩ : ∃ c, s.sl[n]? = some c := ⟨_, List.getElem?_eq_getElem (by omega)⟩
  have hget : s.get n = c := by unfold St.get; rw [Int.toNat_natCast, hc]; rfl
  rw [hget] at h2 h3
  exact ⟨n, c, by rw [h3], hc, h2⟩
end Slots

theorem slots_add {w : World} {b g : Nat} {s : St} (h : At w b g s) (hf : Fine s) (a : Int × Int) :
    Calls Tryd.prog 36 #[.pointer (some ⟨b, 0, none⟩), .agg #[.int .i64 a.1, .int .u64 a.2]] w fun e w' => (∃ v, e = .returned v ∧ ErrV w' slotsB (st s a) v) ∧ At w' b g (s.turn a 1).1 ∧ Fr w w' (fun i => i = b ∨ i = g) := by
  have hbs := h.blk.lt
  have hgs := h.row.lt
  by_cases hok : s.ok a
  · obtain ⟨n, c, rfl, hc, h0⟩ := ok_cell hok
    obtain ⟨⟨q1, q2⟩, q3, q4⟩ := hf.cell n c hc
    have hst : st s ((n : Int), c.gen) = none := by unfold st; rw [if_pos hok]
    have htn : (s.turn ((n : Int), c.gen) 1).1 = { s with sl := s.sl.set n ⟨c.gen, c.count + 1, c.next⟩ } := by rw [turn_ok hc h0, if_neg (by omega)]
    rw [hst, htn]
    have hA : At (w.alloc (.cells #[.int .i64 n, .int .u64 c.gen] 50)) b g s := ⟨h.ne, h.blk.alloc _, h.row.alloc _⟩
    have HA := Lib.hid hA
    have H0 := Lib.hid ((Fr.refl w (fun i => i = b ∨ i = g)).alloc (.cells #[.int .i64 n, .int .u64 c.gen] 50))
    have hb0 := (Blk.new w 50 #[.int .i64 n, .int .u64 c.gen])
    have c0 := hb0.cell 0
    have c1 := hb0.cell 1
    simp only [List.getElem?_toArray, List.getElem?_cons_zero, List.getElem?_cons_succ] at c0 c1
    clear h hA hok hst htn hb0
    go_enter Tryd.func36, Tryd.ntmps36
    go_wp2_with fail
    refine (slots_with_add HA.out hc h0 ⟨q1, by omega⟩ (by omega)).mono ?_
    rintro e w1 ⟨rfl, hA1, hF1⟩
    have HA1 := Lib.hid hA1
    have HF1 := Lib.hid (H0.out.trans hF1 (fun i hi => .inl hi))
    clear hA1 hF1
    go_wp2_with fail
    go_ret
    exact ⟨⟨_, rfl, rfl⟩, HA1.out, HF1.out⟩
  · have hst : st s a = some 7 := by unfold st; rw [if_neg hok]
    have htn : (s.turn a 1).1 = s := by rw [turn_bad hok]
    rw [hst, htn]
    have hA : At (w.alloc (.cells #[.int .i64 a.1, .int .u64 a.2] 50)) b g s := ⟨h.ne, h.blk.alloc _, h.row.alloc _⟩
    have HA := Lib.hid hA
    have H0 := Lib.hid ((Below.refl w.heap.size w).alloc (Nat.le_refl _) (.cells #[.int .i64 a.1, .int .u64 a.2] 50))
    have hb0 := (Blk.new w 50 #[.int .i64 a.1, .int .u64 a.2])
    have c0 := hb0.cell 0
    have c1 := hb0.cell 1
    simp only [List.getElem?_toArray, List.getElem?_cons_zero, List.getElem?_cons_succ] at c0 c1
    have HH := Lib.hid h
    have HK := Lib.hid hok
    clear h hA hok hst htn hb0
    go_enter Tryd.func36, Tryd.ntmps36
    go_wp2_with fail
    refine (slots_with_stale HA.out a HK.out _).mono ?_
    rintro e w1 ⟨⟨v, rfl, hch⟩, hb⟩
    have HC := Lib.hid hch
    have HB := Lib.hid (belowOn H0.out H0.out.size hb)
    clear hch hb
    go_wp2_with fail
    go_ret
    exact ⟨⟨_, rfl, HC.out⟩, HH.out.keep HB.out, Fr.of_below HB.out _⟩

theorem slots_drop {w : World} {b g : Nat} {s : St} (h : At w b g s) (hf : Fine s) (a : Int × Int) :
    Calls Tryd.prog 38 #[.pointer (some ⟨b, 0, none⟩), .agg #[.int .i64 a.1, .int .u64 a.2]] w fun e w' => (∃ v, e = .returned (.tuple #[.int .i64 ((s.turn a (-1)).2.getD 0), v]) ∧ ErrV w' slotsB (st s a) v) ∧ At w' b g (s.turn a (-1)).1 ∧ Fr w w' (fun i => i = b ∨ i = g) := by
  have hbs := h.blk.lt
  have hgs := h.row.lt
  have hb0 := (Blk.new w 50 #[.int .i64 a.1, .int .u64 a.2])
  have c0 := hb0.cell 0
  have c1 := hb0.cell 1
  simp only [List.getElem?_toArray, List.getElem?_cons_zero, List.getElem?_cons_succ] at c0 c1
  clear hb0
  have hA : At (w.alloc (.cells #[.int .i64 a.1, .int .u64 a.2] 50)) b g s := ⟨h.ne, h.blk.alloc _, h.row.alloc _⟩
  have HA := Lib.hid hA
  by_cases hok : s.ok a
  · obtain ⟨n, c, rfl, hc, h0⟩ := ok_cell hok
    obtain ⟨⟨q1, q2⟩, q3, q4⟩ := hf.cell n c hc
    have hl := hf.left
    have hv := hf.live
    have hst : st s ((n : Int), c.gen) = none := by unfold st; rw [if_pos hok]
    rw [hst]
    have H0 := Lib.hid ((Fr.refl w (fun i => i = b ∨ i = g)).alloc (.cells #[.int .i64 n, .int .u64 c.gen] 50))
    by_cases h1 : c.count = 1
    · have htn : s.turn ((n : Int), c.gen) (-1) = (({ s with sl := s.sl.set n ⟨c.gen, c.count + (-1), c.next⟩ } : St).freed n, some 0) := by rw [turn_ok hc h0, if_pos (by omega), h1]; rfl
      rw [htn]
      have HK := Lib.hid h1
      clear h hA hok hst htn h1
      go_enter Tryd.func38, Tryd.ntmps38
      go_wp2_with fail
      refine (slots_with_drop0 HA.out hc HK.out ⟨q3, by omega⟩ ⟨hl.1, by omega⟩ ⟨hv.1, by omega⟩).mono ?_
      rintro e w1 ⟨rfl, hA1, hF1⟩
      have HA1 := Lib.hid hA1
      have HF1 := Lib.hid (H0.out.trans hF1 (fun i hi => .inl hi))
      clear hA1 hF1
      go_wp2_with fail
      go_ret2
      exact ⟨⟨_, rfl, rfl⟩, HA1.out, HF1.out⟩
    · have htn : s.turn ((n : Int), c.gen) (-1) = ({ s with sl := s.sl.set n ⟨c.gen, c.count + (-1), c.next⟩ }, some (c.count + (-1))) := by rw [turn_ok hc h0, if_neg (by omega)]
      rw [htn]
      have HK := Lib.hid h1
      clear h hA hok hst htn h1
      go_enter Tryd.func38, Tryd.ntmps38
      go_wp2_with fail
      refine (slots_with_drop HA.out hc h0 ⟨q1, by omega⟩ (by have := HK.out; omega)).mono ?_
      rintro e w1 ⟨rfl, hA1, hF1⟩
      have HA1 := Lib.hid hA1
      have HF1 := Lib.hid (H0.out.trans hF1 (fun i hi => .inl hi))
      clear hA1 hF1
      go_wp2_with fail
      go_ret2
      exact ⟨⟨_, rfl, rfl⟩, HA1.out, HF1.out⟩
  · have hst : st s a = some 7 := by unfold st; rw [if_neg hok]
    rw [hst, turn_bad hok]
    have H0 := Lib.hid ((Below.refl w.heap.size w).alloc (Nat.le_refl _) (.cells #[.int .i64 a.1, .int .u64 a.2] 50))
    have HH := Lib.hid h
    have HK := Lib.hid hok
    clear h hA hok hst
    go_enter Tryd.func38, Tryd.ntmps38
    go_wp2_with fail
    refine (slots_with_stale HA.out a HK.out _).mono ?_
    rintro e w1 ⟨⟨v, rfl, hch⟩, hb⟩
    have HC := Lib.hid hch
    have HB := Lib.hid (belowOn H0.out H0.out.size hb)
    clear hch hb
    go_wp2_with fail
    go_ret2
    exact ⟨⟨_, rfl, HC.out⟩, HH.out.keep HB.out, Fr.of_below HB.out _⟩

theorem slots_count {w : World} {b g : Nat} {s : St} (h : At w b g s) (hf : Fine s) (a : Int × Int) :
    Calls Tryd.prog 53 #[.pointer (some ⟨b, 0, none⟩), .agg #[.int .i64 a.1, .int .u64 a.2]] w fun e w' => (∃ v, e = .returned (.tuple #[.int .i64 ((s.turn a 0).2.getD 0), v]) ∧ ErrV w' slotsB (st s a) v) ∧ At w' b g (s.turn a 0).1 ∧ Fr w w' (fun i => i = b ∨ i = g) := by
  have hbs := h.blk.lt
  have hgs := h.row.lt
  have hb0 := (Blk.new w 50 #[.int .i64 a.1, .int .u64 a.2])
  have c0 := hb0.cell 0
  have c1 := hb0.cell 1
  simp only [List.getElem?_toArray, List.getElem?_cons_zero, List.getElem?_cons_succ] at c0 c1
  clear hb0
  have hA : At (w.alloc (.cells #[.int .i64 a.1, .int .u64 a.2] 50)) b g s := ⟨h.ne, h.blk.alloc _, h.row.alloc _⟩
  have HA := Lib.hid hA
  by_cases hok : s.ok a
  · obtain ⟨n, c, rfl, hc, h0⟩ := ok_cell hok
    obtain ⟨⟨q1, q2⟩, q3, q4⟩ := hf.cell n c hc
    have hst : st s ((n : Int), c.gen) = none := by unfold st; rw [if_pos hok]
    have htn : s.turn ((n : Int), c.gen) 0 = ({ s with sl := s.sl.set n ⟨c.gen, c.count + 0, c.next⟩ }, some c.count) := by rw [turn_ok hc h0, if_neg (by omega)]; simp
    rw [hst, htn]
    have H0 := Lib.hid ((Fr.refl w (fun i => i = b ∨ i = g)).alloc (.cells #[.int .i64 n, .int .u64 c.gen] 50))
    clear h hA hok hst htn
    go_enter Tryd.func53, Tryd.ntmps53
    go_wp2_with fail
    refine (slots_with_count HA.out hc h0 ⟨q1, by omega⟩ (by omega)).mono ?_
    rintro e w1 ⟨rfl, hA1, hF1⟩
    have HA1 := Lib.hid hA1
    have HF1 := Lib.hid (H0.out.trans hF1 (fun i hi => .inl hi))
    clear hA1 hF1
    go_wp2_with fail
    go_ret2
    exact ⟨⟨_, rfl, rfl⟩, HA1.out, HF1.out⟩
  · have hst : st s a = some 7 := by unfold st; rw [if_neg hok]
    rw [hst, turn_bad hok]
    have H0 := Lib.hid ((Below.refl w.heap.size w).alloc (Nat.le_refl _) (.cells #[.int .i64 a.1, .int .u64 a.2] 50))
    have HH := Lib.hid h
    have HK := Lib.hid hok
    clear h hA hok hst
    go_enter Tryd.func53, Tryd.ntmps53
    go_wp2_with fail
    refine (slots_with_stale HA.out a HK.out _).mono ?_
    rintro e w1 ⟨⟨v, rfl, hch⟩, hb⟩
    have HC := Lib.hid hch
    have HB := Lib.hid (belowOn H0.out H0.out.size hb)
    clear hch hb
    go_wp2_with fail
    go_ret2
    exact ⟨⟨_, rfl, HC.out⟩, HH.out.keep HB.out, Fr.of_below HB.out _⟩

/-- Take, whatever the state. -/
theorem slots_take {w : World} {b g : Nat} {s : St} (h : At w b g s) (hf : Fine s) :
    Calls Tryd.prog 37 #[.pointer (some ⟨b, 0, none⟩)] w fun e w' => (∃ v, e = .returned (.tuple #[.agg #[.int .i64 (s.take.2.getD (0, 0)).1, .int .u64 (s.take.2.getD (0, 0)).2], v]) ∧ ErrV w' slotsB (if s.left = 0 then some 8 else none) v) ∧ At w' b g s.take.1 ∧ Fr w w' (fun i => i = b ∨ i = g) := by
  by_cases h0 : s.left = 0
  · refine (slots_take_full h h0).mono ?_
    rintro e w1 ⟨⟨v, rfl, hc⟩, hb⟩
    have ht : s.take = (s, none) := by unfold St.take; rw [if_pos h0]
    rw [ht, if_pos h0]
    exact ⟨⟨v, rfl, hc⟩, h.keep hb, Fr.of_below hb _⟩
  · obtain ⟨n, hn, hlt⟩ := hf.head h0
    obtain ⟨c, hc⟩ : ∃ c, s.sl[n]? = some c := ⟨_, List.getElem?_eq_getElem hlt⟩
    refine (slots_take_calls h hn hc h0 ⟨hf.left.1, by have := hf.left.2; omega⟩ ⟨hf.live.1, by have := hf.live.2; omega⟩).mono ?_
    rintro e w1 ⟨rfl, hA, hF⟩
    have hget : s.get s.head = c := by unfold St.get; rw [hn, Int.toNat_natCast, hc]; rfl
    have ht : s.take.2 = some (s.head, c.gen) := by unfold St.take; rw [if_neg h0]; simp only [hget]
    rw [ht, if_neg h0]
    exact ⟨⟨_, rfl, rfl⟩, hA, hF⟩

end Go.Proofs.YtlpjjbkpoaohnaaDoor
