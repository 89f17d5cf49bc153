/- The reference's text of an address, plain. -/
import Derived.Test.YtodpjdeffhbkpaaGreatDoorSixBack
set_option linter.unusedVariables false
set_option linter.unusedSimpArgs false
namespace Go.Proofs.YtodpjdeffhbkpaaGreatDoor.Six
open Go.Lib Four

/-- The place of the first longest run, from place i on, b the best before. -/
def bestR (a : List Nat) : Nat → Nat → Nat → Nat
  | 0, i, b => b
  | d + 1, i, b => bestR a d (i + 1) (if runN (a.drop b) < runN (a.drop i) then i else b)
/-- The two looks agree: the same place, where a run is of two and more. -/
theorem best_long (a : List Nat) : ∀ (d i b : Nat) (c : Nat × Nat), ((c = (0, 1) ∧ runN (a.drop b) ≤ 1) ∨ (c = (b, runN (a.drop b)) ∧ 2 ≤ runN (a.drop b))) →
    ((longN a d i c = (0, 1) ∧ runN (a.drop (bestR a d i b)) ≤ 1) ∨ (longN a d i c = (bestR a d i b, runN (a.drop (bestR a d i b))) ∧ 2 ≤ runN (a.drop (bestR a d i b))))
  | 0, i, b, c, h => h
  | d + 1, i, b, c, h => by
    unfold longN bestR
    refine best_long a d (i + 1) _ _ ?_
    rcases h with ⟨rfl, h⟩ | ⟨rfl, h⟩
    · by_cases h1 : 1 < runN (a.drop i)
      · rw [if_pos (by exact h1), if_pos (by omega)]
        exact .inr ⟨rfl, by omega⟩
      · rw [if_neg (by exact h1)]
        refine .inl ⟨rfl, ?_⟩
        split
        · omega
        · exact h
    · by_cases h1 : runN (a.drop b) < runN (a.drop i)
      · rw [if_pos (by exact h1), if_pos h1]
        exact .inr ⟨rfl, by omega⟩
      · rw [if_neg (by exact h1), if_neg h1]
        exact .inr ⟨rfl, h⟩
theorem best_is (a : List Nat) : ((longest a).2 < 2 ∧ runN (a.drop (bestR a 8 0 0)) < 2) ∨ (longest a = (bestR a 8 0 0, runN (a.drop (bestR a 8 0 0))) ∧ 2 ≤ runN (a.drop (bestR a 8 0 0))) := by
  have h0 : longest a = longN a 8 0 (0, 1) := rfl
  have hs : longN a 8 0 (0, 1) = longN a 7 1 (if 1 < runN a then (0, runN a) else (0, 1)) := rfl
  have hb : bestR a 8 0 0 = bestR a 7 1 0 := by
    show bestR a 7 1 (if runN (a.drop 0) < runN (a.drop 0) then 0 else 0) = _
    rw [if_neg (by omega)]
  rw [h0, hs, hb]
  have := best_long a 7 1 0 (if 1 < runN a then (0, runN a) else (0, 1)) (by
    by_cases h : 1 < runN a
    · rw [if_pos h]; exact .inr ⟨by simp, by simp; omega⟩
    · rw [if_neg h]; exact .inl ⟨rfl, by simp; omega⟩)
  rcases this with ⟨e, h⟩ | ⟨e, h⟩
  · exact .inl ⟨by rw [e]; decide, by omega⟩
  · exact .inr ⟨e, h⟩

/-! ### The text, put together piece by piece -/
/-- Pieces from place i on, a colon ahead of each but the first at all (lead: whether this one has one). -/
def tailT : Bool → List Nat → List UInt8
  | _, [] => []
  | lead, n :: l => (if lead = true then [58] else []) ++ hexL n ++ tailT true l
theorem tail_joined : ∀ (n : Nat) (l : List Nat), tailT false (n :: l) = joined (n :: l)
  | n, [] => by simp [tailT, joined, join]
  | n, m :: l => by
    have ih := tail_joined m l
    have e : tailT true (m :: l) = 58 :: tailT false (m :: l) := by simp [tailT]
    have j : joined (n :: m :: l) = hexL n ++ [58] ++ joined (m :: l) := by simp [joined, join]
    rw [j, ← ih, tailT, e]
    simp
theorem tail_is (l : List Nat) : tailT false l = joined l := by
  cases l with
  | nil => simp [tailT, joined, join]
  | cons n l => exact tail_joined n l
theorem tail_append : ∀ (b : Bool) (l : List Nat) (n : Nat), tailT b (l ++ [n]) = tailT b l ++ (if b = true ∨ l ≠ [] then [58] else []) ++ hexL n
  | b, [], n => by cases b <;> simp [tailT]
  | b, m :: l, n => by
    have ih := tail_append true l n
    rw [List.cons_append, tailT, ih, tailT]
    simp

/-- What stands after the places below k: b and n the best run's place and length. -/
def PT (a : List Nat) (b n k : Nat) (out : List UInt8) : Prop :=
  (n < 2 ∧ out = tailT false (a.take k)) ∨ (2 ≤ n ∧ ((k ≤ b ∧ out = tailT false (a.take k)) ∨ (b + n ≤ k ∧ out = tailT false (a.take b) ++ [58, 58] ++ tailT false ((a.drop (b + n)).take (k - (b + n))))))
theorem take_step {a : List Nat} {k m : Nat} (hm : a[k]? = some m) : tailT false (a.take (k + 1)) = tailT false (a.take k) ++ (if 0 < k then [58] else []) ++ hexL m := by
  have hk := (List.getElem?_eq_some_iff.1 hm).1
  rw [List.take_add_one, hm]
  show tailT false (a.take k ++ [m]) = _
  rw [tail_append]
  congr 2
  by_cases h0 : k = 0
  · subst h0; simp
  · rw [if_pos, if_pos (by omega)]
    right
    intro e
    have := congrArg List.length e
    rw [List.length_take, List.length_nil] at this
    omega
theorem pt_step {a : List Nat} {b n k m : Nat} {out : List UInt8} (h : PT a b n k out) (hm : a[k]? = some m) (hs : ¬ (2 ≤ n ∧ k = b)) : PT a b n (k + 1) (out ++ (if 0 < k ∧ (n < 2 ∨ k ≠ b + n) then [58] else []) ++ hexL m) := by
  rcases h with ⟨h1, rfl⟩ | ⟨h1, ⟨h2, rfl⟩ | ⟨h2, rfl⟩⟩
  · refine .inl ⟨h1, ?_⟩
    rw [take_step hm]
    congr 2
    by_cases h0 : 0 < k
    · rw [if_pos ⟨h0, .inl h1⟩, if_pos h0]
    · rw [if_neg (fun h => h0 h.1), if_neg h0]
  · refine .inr ⟨h1, .inl ⟨by omega, ?_⟩⟩
    rw [take_step hm]
    congr 2
    by_cases h0 : 0 < k
    · rw [if_pos ⟨h0, .inr (by omega)⟩, if_pos h0]
    · rw [if_neg (fun h => h0 h.1), if_neg h0]
  · refine .inr ⟨h1, .inr ⟨by omega, ?_⟩⟩
    have hd : (a.drop (b + n))[k - (b + n)]? = some m := by rw [List.getElem?_drop, show b + n + (k - (b + n)) = k by omega, hm]
    rw [show k + 1 - (b + n) = (k - (b + n)) + 1 by omega, take_step hd]
    by_cases h0 : k = b + n
    · rw [if_neg (by omega), if_neg (by omega)]
      simp
    · rw [if_pos (by omega), if_pos (by omega)]
      simp
theorem pt_skip {a : List Nat} {b n : Nat} {out : List UInt8} (h : PT a b n b out) (h1 : 2 ≤ n) : PT a b n (b + n) (out ++ [58, 58]) := by
  rcases h with ⟨h2, _⟩ | ⟨_, ⟨_, rfl⟩ | ⟨h2, rfl⟩⟩
  · omega
  · exact .inr ⟨h1, .inr ⟨by omega, by simp [tailT]⟩⟩
  · omega
theorem pt_end {a : List Nat} {b n : Nat} {out : List UInt8} (h8 : a.length = 8) (hbn : b + n ≤ 8) (hb : b ≤ 7) (h : PT a b n 8 out) (hl : ((longest a).2 < 2 ∧ n < 2) ∨ (longest a = (b, n) ∧ 2 ≤ n)) : out = text6 a := by
  unfold text6
  rcases hl with ⟨e, hn⟩ | ⟨e, hn⟩
  · rw [if_pos e]
    rcases h with ⟨_, rfl⟩ | ⟨h1, _⟩
    · rw [List.take_of_length_le (by omega), tail_is]
    · omega
  · rw [e, if_neg (by simp only; omega)]
    rcases h with ⟨h1, _⟩ | ⟨_, ⟨h2, _⟩ | ⟨h2, rfl⟩⟩
    · omega
    · omega
    · rw [tail_is, tail_is, List.take_of_length_le (l := a.drop (b + n)) (by rw [List.length_drop, h8]; omega)]
theorem pt_len {a : List Nat} {b n k : Nat} {out : List UInt8} (h : PT a b n k out) (ha : ∀ m ∈ a, m < 65536) (h8 : a.length = 8) : out.length ≤ 100 := by
  have hj : ∀ l : List Nat, (∀ m ∈ l, m < 65536) → l.length ≤ 8 → (tailT false l).length ≤ 41 := fun l h1 h2 => by
    rw [tail_is]
    have := (joined_len l h1).1
    omega
  rcases h with ⟨_, rfl⟩ | ⟨_, ⟨_, rfl⟩ | ⟨_, rfl⟩⟩
  · have := hj (a.take k) (fun m hm => ha m (List.mem_of_mem_take hm)) (by rw [List.length_take]; omega)
    omega
  · have := hj (a.take k) (fun m hm => ha m (List.mem_of_mem_take hm)) (by rw [List.length_take]; omega)
    omega
  · have h1 := hj (a.take b) (fun m hm => ha m (List.mem_of_mem_take hm)) (by rw [List.length_take]; omega)
    have h2 := hj ((a.drop (b + n)).take (k - (b + n))) (fun m hm => ha m (List.mem_of_mem_drop (List.mem_of_mem_take hm))) (by rw [List.length_take, List.length_drop]; omega)
    simp
    omega
end Go.Proofs.YtodpjdeffhbkpaaGreatDoor.Six
