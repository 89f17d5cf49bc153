/- Public suffixes in plain lists: the longest rule of a name, by the list of rules and by the ways down a tree. -/
import Derived.WalkKit
set_option linter.unusedSimpArgs false
set_option linter.unusedVariables false
namespace Go.Proofs.YtgljkgkmbfhgiaaDoor

structure Rule where
  labels : List ByteArray
  except : Bool
def star : ByteArray := ⟨#[42]⟩
/-- Is a rule of a name? -/
def ofL : List ByteArray → List ByteArray → Bool
  | [], _ => true
  | _ :: _, [] => false
  | x :: r, y :: ls => (decide (x = y) || decide (x = star)) && ofL r ls
def longestR (labels : List ByteArray) (e : Bool) : List Rule → Int → Int
  | [], n => n
  | r :: l, n => longestR labels e l (if r.except = e ∧ ofL r.labels labels = true then max n r.labels.length else n)
def pick (x r : Int) (labels : List ByteArray) : Int := if x ≥ 0 then max (x - 1) 0 else if r ≥ 0 then r else min (labels.length : Int) 1
def suffixR (l : List Rule) (labels : List ByteArray) : Int := pick (longestR labels true l (-1)) (longestR labels false l (-1)) labels
/-- The longest way down a tree along a name: where f holds; -1: nowhere. -/
def best (f : List ByteArray → Bool) : List ByteArray → List ByteArray → Int → Int
  | [], p, d => if f p = true then d else -1
  | s :: ls, p, d => max (if f p = true then d else -1) (max (best f ls (p ++ [s]) (d + 1)) (if s = star then -1 else best f ls (p ++ [star]) (d + 1)))

/-- The greatest of a set of numbers that are not negative; -1: it is empty. -/
structure IsBest (S : Int → Prop) (n : Int) : Prop where
  le : ∀ m, S m → m ≤ n
  is : n = -1 ∨ S n
  pos : ∀ m, S m → 0 ≤ m
theorem IsBest.uniq {S T : Int → Prop} {n m : Int} (h : IsBest S n) (k : IsBest T m) (e : ∀ x, S x ↔ T x) : n = m := by
  rcases h.is with h1 | h1
  · rcases k.is with k1 | k1
    · rw [h1, k1]
    · have := h.le m ((e m).2 k1)
      have := k.pos m k1
      omega
  · have a := k.le n ((e n).1 h1)
    rcases k.is with k1 | k1
    · have := h.pos n h1
      omega
    · have := h.le m ((e m).2 k1)
      omega
theorem ofL_len : ∀ {r ls : List ByteArray}, ofL r ls = true → r.length ≤ ls.length
  | [], _, _ => Nat.zero_le _
  | x :: r, [], h => by simp [ofL] at h
  | x :: r, y :: ls, h => by
    simp only [ofL, Bool.and_eq_true] at h
    have := ofL_len h.2
    simpa using this

theorem best_is (f : List ByteArray → Bool) : ∀ (ls p : List ByteArray) (d : Int), 0 ≤ d → IsBest (fun m => ∃ q, f (p ++ q) = true ∧ ofL q ls = true ∧ m = d + q.length) (best f ls p d)
  | [], p, d, hd => by
    unfold best
    refine ⟨?_, ?_, ?_⟩
    · rintro m ⟨q, hf, ho, rfl⟩
      have hq : q = [] := by cases q with | nil => rfl | cons x q => simp [ofL] at ho
      subst hq
      simp only [List.append_nil] at hf
      simp [hf]
    · by_cases h : f p = true
      · right
        exact ⟨[], by simpa using h, rfl, by simp [h]⟩
      · left
        simp [h]
    · rintro m ⟨q, hf, ho, rfl⟩
      omega
  | s :: ls, p, d, hd => by
    have h1 := best_is f ls (p ++ [s]) (d + 1) (by omega)
    have h2 := best_is f ls (p ++ [star]) (d + 1) (by omega)
    refine ⟨?_, ?_, ?_⟩
    · rintro m ⟨q, hf, ho, rfl⟩
      simp only [best]
      cases q with
      | nil =>
        simp only [List.append_nil] at hf
        simp only [if_pos hf, List.length_nil]
        omega
      | cons x q =>
        simp only [ofL, Bool.and_eq_true, Bool.or_eq_true, decide_eq_true_eq] at ho
        have hl : ((x :: q).length : Int) = q.length + 1 := by simp
        by_cases hx : x = s
        · subst hx
          have := h1.le (d + 1 + q.length) ⟨q, by simpa using hf, ho.2, rfl⟩
          omega
        · have hx2 : x = star := by rcases ho.1 with e | e; exact absurd e hx; exact e
          subst hx2
          have hs : ¬ s = star := fun e => hx e.symm
          rw [if_neg hs]
          have := h2.le (d + 1 + q.length) ⟨q, by simpa using hf, ho.2, rfl⟩
          omega
    · have up : ∀ (x : ByteArray) (m : Int), (x = s ∨ x = star) → (∃ q, f (p ++ [x] ++ q) = true ∧ ofL q ls = true ∧ m = d + 1 + q.length) → ∃ q, f (p ++ q) = true ∧ ofL q (s :: ls) = true ∧ m = d + q.length := by
        rintro x m hx ⟨q, hf, ho, rfl⟩
        refine ⟨x :: q, by simpa using hf, ?_, by simp; omega⟩
        simp only [ofL, ho, Bool.and_true, Bool.or_eq_true, decide_eq_true_eq]
        exact hx
      simp only [best]
      have hA : (if f p = true then d else -1) = -1 ∨ (∃ q, f (p ++ q) = true ∧ ofL q (s :: ls) = true ∧ (if f p = true then d else -1) = d + (q.length : Int)) := by
        by_cases h : f p = true
        · right
          exact ⟨[], by simpa using h, rfl, by simp [h]⟩
        · left
          simp [h]
      have hB := h1.is.imp_right (up s _ (.inl rfl))
      have hC : (if s = star then (-1 : Int) else best f ls (p ++ [star]) (d + 1)) = -1 ∨ (∃ q, f (p ++ q) = true ∧ ofL q (s :: ls) = true ∧ (if s = star then (-1 : Int) else best f ls (p ++ [star]) (d + 1)) = d + (q.length : Int)) := by
        by_cases h : s = star
        · left
          simp [h]
        · rw [if_neg h]
          exact h2.is.imp_right (up star _ (.inr rfl))
      have three : ∀ (P : Int → Prop) (a b c : Int), (a = -1 ∨ P a) → (b = -1 ∨ P b) → (c = -1 ∨ P c) → (max a (max b c) = -1 ∨ P (max a (max b c))) := by
        intro P a b c ha hb hc
        rcases Int.le_total a (max b c) with h | h
        · rw [Int.max_eq_right h]
          rcases Int.le_total b c with h' | h'
          · rw [Int.max_eq_right h']; exact hc
          · rw [Int.max_eq_left h']; exact hb
        · rw [Int.max_eq_left h]; exact ha
      exact three (fun m => ∃ q, f (p ++ q) = true ∧ ofL q (s :: ls) = true ∧ m = d + (q.length : Int)) _ _ _ hA hB hC
    · rintro m ⟨q, hf, ho, rfl⟩
      omega

theorem longest_is (labels : List ByteArray) (e : Bool) : ∀ (l : List Rule) (n : Int) (T : Int → Prop), IsBest T n → IsBest (fun m => T m ∨ ∃ r ∈ l, r.except = e ∧ ofL r.labels labels = true ∧ m = r.labels.length) (longestR labels e l n)
  | [], n, T, h => ⟨fun m hm => h.le m (by simpa using hm), by simpa [longestR] using h.is, fun m hm => h.pos m (by simpa using hm)⟩
  | r :: l, n, T, h => by
    unfold longestR
    by_cases hr : r.except = e ∧ ofL r.labels labels = true
    · rw [if_pos hr]
      have h' : IsBest (fun m => T m ∨ m = r.labels.length) (max n r.labels.length) := by
        refine ⟨?_, ?_, ?_⟩
        · rintro m (hm | rfl)
          · have := h.le m hm; omega
          · omega
        · rcases Int.le_total n r.labels.length with hle | hle
          · rw [Int.max_eq_right hle]; exact .inr (.inr rfl)
          · rw [Int.max_eq_left hle]; exact h.is.imp_right .inl
        · rintro m (hm | rfl)
          · exact h.pos m hm
          · omega
      have := longest_is labels e l _ _ h'
      refine ⟨fun m hm => this.le m ?_, this.is.imp_right ?_, fun m hm => ?_⟩
      · rcases hm with hm | ⟨q, hq, h1, h2, h3⟩
        · exact .inl (.inl hm)
        · rcases List.mem_cons.1 hq with rfl | hq
          · exact .inl (.inr h3)
          · exact .inr ⟨q, hq, h1, h2, h3⟩
      · rintro ((hm | hm) | ⟨q, hq, h1, h2, h3⟩)
        · exact .inl hm
        · exact .inr ⟨r, by simp, hr.1, hr.2, hm⟩
        · exact .inr ⟨q, by simp [hq], h1, h2, h3⟩
      · rcases hm with hm | ⟨q, hq, h1, h2, rfl⟩
        · exact h.pos m hm
        · omega
    · rw [if_neg hr]
      have := longest_is labels e l _ _ h
      refine ⟨fun m hm => this.le m ?_, this.is.imp_right ?_, fun m hm => ?_⟩
      · rcases hm with hm | ⟨q, hq, h1, h2, h3⟩
        · exact .inl hm
        · rcases List.mem_cons.1 hq with rfl | hq
          · exact absurd ⟨h1, h2⟩ hr
          · exact .inr ⟨q, hq, h1, h2, h3⟩
      · rintro (hm | ⟨q, hq, h1, h2, h3⟩)
        · exact .inl hm
        · exact .inr ⟨q, by simp [hq], h1, h2, h3⟩
      · rcases hm with hm | ⟨q, hq, h1, h2, rfl⟩
        · exact h.pos m hm
        · omega
theorem longest_best (labels : List ByteArray) (e : Bool) (l : List Rule) : IsBest (fun m => ∃ r ∈ l, r.except = e ∧ ofL r.labels labels = true ∧ m = r.labels.length) (longestR labels e l (-1)) := by
  have h0 : IsBest (fun _ => False) (-1) := ⟨fun m h => h.elim, .inl rfl, fun m h => h.elim⟩
  have := longest_is labels e l (-1) _ h0
  refine ⟨fun m hm => this.le m (.inr hm), this.is.imp_right ?_, fun m hm => this.pos m (.inr hm)⟩
  rintro (h | h)
  · exact h.elim
  · exact h

/-- By which paths rules end: those that are no exceptions; those that are. -/
def ends (l : List Rule) (e : Bool) (p : List ByteArray) : Bool := l.any fun r => decide (r.except = e) && decide (r.labels = p)
theorem ends_iff {l : List Rule} {e : Bool} {p : List ByteArray} : ends l e p = true ↔ ∃ r ∈ l, r.except = e ∧ r.labels = p := by
  simp [ends, List.any_eq_true]
theorem best_longest (l : List Rule) (e : Bool) (labels : List ByteArray) : best (ends l e) labels [] 0 = longestR labels e l (-1) := by
  refine (best_is (ends l e) labels [] 0 (by omega)).uniq (longest_best labels e l) fun x => ?_
  constructor
  · rintro ⟨q, hf, ho, rfl⟩
    obtain ⟨r, hr, he, hl⟩ := ends_iff.1 hf
    simp only [List.nil_append] at hl
    exact ⟨r, hr, he, by rw [hl]; exact ho, by rw [hl]; omega⟩
  · rintro ⟨r, hr, he, ho, rfl⟩
    exact ⟨r.labels, ends_iff.2 ⟨r, hr, he, rfl⟩, ho, by omega⟩
theorem longest_le (labels : List ByteArray) (e : Bool) (l : List Rule) : -1 ≤ longestR labels e l (-1) ∧ longestR labels e l (-1) ≤ labels.length := by
  have h := longest_best labels e l
  rcases h.is with h1 | ⟨r, _, _, ho, h1⟩
  · omega
  · have := ofL_len ho
    omega
theorem best_le (f : List ByteArray → Bool) (ls p : List ByteArray) (d : Int) (hd : 0 ≤ d) : -1 ≤ best f ls p d ∧ best f ls p d ≤ d + ls.length := by
  have h := best_is f ls p d hd
  rcases h.is with h1 | ⟨q, _, ho, h1⟩
  · omega
  · have := ofL_len ho
    omega

theorem pick_le (x r : Int) (labels : List ByteArray) (hx : x ≤ labels.length) (hr : r ≤ labels.length) : 0 ≤ pick x r labels ∧ pick x r labels ≤ labels.length := by
  unfold pick
  split
  · omega
  · split <;> omega
/-- TrieFew: some rule says that there may be none. -/
theorem suffix_le (l : List Rule) (labels : List ByteArray) : 0 ≤ suffixR l labels ∧ suffixR l labels ≤ labels.length :=
  pick_le _ _ _ (longest_le labels true l).2 (longest_le labels false l).2
/-- TrieFew: no rule says so. -/
theorem suffix_pos (l : List Rule) (labels : List ByteArray) (h : ∀ r ∈ l, ¬ (r.labels.length < 2 ∧ (r.except = true ∨ r.labels.length = 0))) : (0 < suffixR l labels) ↔ 0 < labels.length := by
  have hle := suffix_le l labels
  refine ⟨fun h => by omega, fun hl => ?_⟩
  have hx := longest_best labels true l
  have hr := longest_best labels false l
  unfold suffixR pick
  split
  · rcases hx.is with e | ⟨r, hm, he, _, e⟩
    · omega
    · have := h r hm
      rw [he] at this
      simp only [true_or, and_true] at this
      omega
  · split
    · rcases hr.is with e | ⟨r, hm, he, _, e⟩
      · omega
      · have := h r hm
        rw [he] at this
        simp at this
        have h0 : r.labels.length ≠ 0 := fun e => by simp at e; exact (this (by simp [e])) e
        omega
    · omega
/-- TrieTurn: the rules count, not their turn. -/
theorem suffix_same {l l' : List Rule} (labels : List ByteArray) (h : ∀ r, r ∈ l ↔ r ∈ l') : suffixR l labels = suffixR l' labels := by
  unfold suffixR
  rw [(longest_best labels true l).uniq (longest_best labels true l') fun x => by simp only [h], (longest_best labels false l).uniq (longest_best labels false l') fun x => by simp only [h]]
theorem longest_append (labels : List ByteArray) (e : Bool) : ∀ (l l' : List Rule) (n : Int), longestR labels e (l ++ l') n = longestR labels e l' (longestR labels e l n)
  | [], l', n => rfl
  | r :: l, l', n => by simp only [List.cons_append, longestR, longest_append labels e l l']
end Go.Proofs.YtgljkgkmbfhgiaaDoor
