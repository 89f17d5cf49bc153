/- Schemes in plain lists: what the program's functions and the reference's tell is the same. -/
import Derived.Test.YtakbjmmelfcjeaaPureLib
import Derived.Test.YtakbjmmelfcjeaaSchemeMay
import Derived.Test.YtakbjmmelfcjeaaPSchemex3
import Derived.Test.YtakbjmmelfcjeaaPSchemex3
import Derived.Test.YtakbjmmelfcjeaaPSchemex3
import Derived.Test.YtakbjmmelfcjeaaPSchemex3
set_option linter.unusedVariables false
set_option linter.unusedSimpArgs false
namespace Go.Proofs.Ytakbjmmelfcjeaa.Plain
open Go.RowKit Go.Proofs.YtakbjmmelfcjeaaW.PrintWords Go.Proofs.Ytakbjmmelfcjeaa.PScheme Go.Proofs.Ytakbjmmelfcjeaa

def letR (c : Int) : Bool := (decide (97 ≤ c) && decide (c ≤ 122)) || (decide (65 ≤ c) && decide (c ≤ 90))
def moreR (c : Int) : Bool := (decide (48 ≤ c) && decide (c ≤ 57)) || decide (c = 43) || decide (c = 45) || decide (c = 46)
theorem letter_is (c : UInt8) : letterB c = letR c.toNat :=
  all_bytes (p := fun n => (scheme_letter.f (n : Int)).getD false = letR n) (by decide +kernel) c
theorem odd_is (c : UInt8) : oddB c = !(letR c.toNat || moreR c.toNat) :=
  all_bytes (p := fun n => (scheme_May_1.f (n : Int)).getD false = !(letR n || moreR n)) (by decide +kernel) c
theorem ref_letter (c : Int) : gatepostref10_letter.f c = some (letR c) := by
  unfold gatepostref10_letter.f letR
  by_cases h1 : 97 ≤ c <;> by_cases h2 : c ≤ 122 <;> by_cases h3 : 65 ≤ c <;> by_cases h4 : c ≤ 90 <;> simp [ge_iff_le, h1, h2, h3, h4]
theorem may_round (s : ByteArray) (i : Nat) (c : UInt8) (k : Nat) (hs : s.size ≤ 140737488351232) (h : s.data.toList[i]? = some c) :
    gatepostref10_May.l0 (k + 1) s i = if (letR c.toNat || (decide (0 < i) && moreR c.toNat)) = true then gatepostref10_May.l0 k s ((i + 1 : Nat) : Int) else some false := by
  have hi : i < s.size := by have := (List.getElem?_eq_some_iff.1 h).1; simpa using this
  have hw : wrap64 ((i : Int) + 1) = ((i + 1 : Nat) : Int) := by rw [wrap_in (by omega) (by omega)]; omega
  simp only [gatepostref10_May.l0]
  rw [if_pos (by omega), if_pos (by omega), bt_nat s i c h, hw]
  simp only [ref_letter, Option.bind_some]
  generalize (c.toNat : Int) = x
  generalize gatepostref10_May.l0 k s ((i + 1 : Nat) : Int) = y
  by_cases h0 : (i : Int) > 0
  · have h0' : decide (0 < i) = true := by simp; omega
    rw [if_pos h0, h0']
    cases hl : letR x <;> simp only [hl, moreR, Bool.false_eq_true, if_false, if_true, Bool.true_and, Bool.false_or, Bool.true_or]
    · repeat' split
      all_goals first | rfl | (exfalso; simp at *; omega)
    · repeat' split
      all_goals first | rfl | (exfalso; simp at *; omega)
  · have h0' : decide (0 < i) = false := by simp; omega
    rw [if_neg h0, h0']
    cases hl : letR x <;> simp [hl]
def mayR : List UInt8 → Nat → Bool
  | [], _ => true
  | c :: l, i => (letR c.toNat || (decide (0 < i) && moreR c.toNat)) && mayR l (i + 1)
theorem may_loop (s : ByteArray) (hs : s.size ≤ 140737488351232) : ∀ (d i : Nat), i ≤ s.size → s.size - i = d → Ev (fun k => gatepostref10_May.l0 k s i) (mayR (s.data.toList.drop i) i && decide (0 < s.size)) := by
  intro d
  induction d with
  | zero =>
    intro i hi hd
    have hdrop : s.data.toList.drop i = [] := List.drop_eq_nil_of_le (by rw [len_data]; omega)
    rw [hdrop]
    refine Ev.step (f := fun _ => some (decide (0 < s.size))) (fun k => ?_) (Ev.now _)
    simp only [gatepostref10_May.l0]
    rw [if_neg (by omega)]
    simp
  | succ d ih =>
    intro i hi hd
    obtain ⟨c, hc⟩ := byte_some (s := s) (i := i) (by omega)
    have hdrop : s.data.toList.drop i = c :: s.data.toList.drop (i + 1) := by
      obtain ⟨hl, hg⟩ := List.getElem?_eq_some_iff.1 hc
      rw [List.drop_eq_getElem_cons hl, hg]
    rw [hdrop]
    simp only [mayR]
    refine Ev.step (fun k => may_round s i c k hs hc) ?_
    refine Ev.ite (fun h => ?_) (fun h => ?_)
    · rw [h, Bool.true_and]
      exact ih (i + 1) (by omega) (by omega)
    · have h' : (letR c.toNat || (decide (0 < i) && moreR c.toNat)) = false := by simpa using h
      rw [h', Bool.false_and, Bool.false_and]
      exact Ev.now _
theorem mayR_pos : ∀ (l : List UInt8) (i : Nat), 0 < i → mayR l i = !(l.any oddB)
  | [], _, _ => rfl
  | c :: l, i, h => by
    simp only [mayR, List.any_cons, odd_is, mayR_pos l (i + 1) (by omega)]
    have : decide (0 < i) = true := by simpa using h
    rw [this]
    cases letR c.toNat <;> cases moreR c.toNat <;> simp
theorem may_same (s : ByteArray) : (mayR s.data.toList 0 && decide (0 < s.size)) = mayOf s := by
  unfold mayOf
  cases h : s.data.toList with
  | nil =>
    have : s.size = 0 := by rw [← len_data, h]; rfl
    simp [this]
  | cons c l =>
    have : s.size = l.length + 1 := by rw [← len_data, h]; rfl
    simp only [mayR, this, letter_is, List.any_cons, odd_is, mayR_pos l 1 (by omega)]
    cases letR c.toNat <;> cases moreR c.toNat <;> simp
theorem may_ref (s : ByteArray) (hs : s.size ≤ 140737488351232) : Ev (fun k => gatepostref10_May.f k s) (mayOf s) := by
  have := may_loop s hs s.size 0 (Nat.zero_le _) rfl
  rw [List.drop_zero, may_same] at this
  exact this
theorem default_ref (s : ByteArray) : ∃ n, scheme_Default.f s = some n ∧ Ev (fun k => gatepostref10_Default.f k s) n := by
  unfold scheme_Default.f gatepostref10_Default.f
  have hj : ∀ b k, gatepostref10_Default.j0 (k + 1) s b = (if b = true then (some 80) else (if s.toList = ([104, 116, 116, 112, 115] : List UInt8) then (some 443) else (if s.toList = ([119, 115, 115] : List UInt8) then (some 443) else (some (-1))))) := fun b k => rfl
  have hk : ∀ k, 1 ≤ k → ∃ m, k = m + 1 := fun k hk => ⟨k - 1, by omega⟩
  generalize s.toList = l at hj
  by_cases h1 : l = [102, 116, 112]
  · subst h1; exact ⟨21, by simp, 1, fun k h => by simp⟩
  by_cases h2 : l = [104, 116, 116, 112]
  · subst h2; exact ⟨80, by simp, 1, fun k h => by obtain ⟨m, rfl⟩ := hk k h; simp [hj]⟩
  by_cases h3 : l = [119, 115]
  · subst h3; exact ⟨80, by simp, 1, fun k h => by obtain ⟨m, rfl⟩ := hk k h; simp [hj]⟩
  by_cases h4 : l = [119, 115, 115]
  · subst h4; exact ⟨443, by simp, 1, fun k h => by obtain ⟨m, rfl⟩ := hk k h; simp [hj]⟩
  by_cases h5 : l = [104, 116, 116, 112, 115]
  · subst h5; exact ⟨443, by simp, 1, fun k h => by obtain ⟨m, rfl⟩ := hk k h; simp [hj]⟩
  exact ⟨-1, by simp [h1, h2, h3, h4, h5], 1, fun k h => by obtain ⟨m, rfl⟩ := hk k h; simp [hj, h1, h2, h3, h4, h5]⟩
theorem special_ref (s : ByteArray) : ∃ b, scheme_Special.f s = some b ∧ gatepostref10_Special.f s = some b := by
  unfold scheme_Special.f gatepostref10_Special.f scheme_Default.f
  generalize s.toList = l
  by_cases h1 : l = [102, 116, 112]
  · subst h1; exact ⟨true, by decide +kernel, by decide +kernel⟩
  by_cases h2 : l = [102, 105, 108, 101]
  · subst h2; exact ⟨true, by decide +kernel, by decide +kernel⟩
  by_cases h3 : l = [104, 116, 116, 112]
  · subst h3; exact ⟨true, by decide +kernel, by decide +kernel⟩
  by_cases h4 : l = [104, 116, 116, 112, 115]
  · subst h4; exact ⟨true, by decide +kernel, by decide +kernel⟩
  by_cases h5 : l = [119, 115]
  · subst h5; exact ⟨true, by decide +kernel, by decide +kernel⟩
  by_cases h6 : l = [119, 115, 115]
  · subst h6; exact ⟨true, by decide +kernel, by decide +kernel⟩
  exact ⟨false, by simp [h1, h2, h3, h4, h5, h6], by simp [h1, h2, h3, h4, h5, h6]⟩
end Go.Proofs.Ytakbjmmelfcjeaa.Plain
