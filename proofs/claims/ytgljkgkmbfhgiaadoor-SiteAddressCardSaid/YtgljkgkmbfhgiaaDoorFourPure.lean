/- Addresses of four bytes, plain: a name's parts, a part's number, the address that parts are, and an address as a text. -/
import Derived.Lib.SplitLaws
import Derived.Lib.ItoaNum
import Derived.Lib.SlTrimSet
import Derived.Lib.Join
set_option linter.unusedVariables false
set_option linter.unusedSimpArgs false
namespace Go.Proofs.YtgljkgkmbfhgiaaDoor.Four
open Go.Lib

/-- A text of bytes. -/
def mkB (l : List UInt8) : ByteArray := ⟨l.toArray⟩
theorem mkB_data (l : List UInt8) : (mkB l).data.toList = l := by simp [mkB]
theorem mkB_of (s : ByteArray) : mkB s.data.toList = s := by cases s; simp [mkB]
theorem mkB_size (l : List UInt8) : (mkB l).size = l.length := by simp [mkB, ByteArray.size]
theorem mkB_inj {l m : List UInt8} (h : mkB l = mkB m) : l = m := by rw [← mkB_data l, ← mkB_data m, h]

theorem last_at {α : Type} {l : List α} {d : α} (h : 1 ≤ l.length) : l[l.length - 1]? = some (l.getLastD d) := by
  have hne : l ≠ [] := List.length_pos_iff.1 h
  rw [List.getLastD_eq_getLast?, List.getLast?_eq_getElem?]
  rw [List.getElem?_eq_getElem (by omega)]
  rfl

/-! ### Parts -/
/-- A list's parts, between the bytes c. -/
def splitL (c : UInt8) : List UInt8 → List (List UInt8)
  | [] => [[]]
  | x :: l => if x = c then [] :: splitL c l else match splitL c l with
    | [] => [[x]]
    | p :: ps => (x :: p) :: ps
theorem splitL_ne (c : UInt8) : ∀ l, splitL c l ≠ []
  | [] => by simp [splitL]
  | x :: l => by
    unfold splitL
    split
    · simp
    · split <;> simp
theorem splitL_pos (c : UInt8) (l : List UInt8) : 1 ≤ (splitL c l).length := List.length_pos_iff.2 (splitL_ne c l)
theorem splitL_eq (c : UInt8) (l : List UInt8) : splitL c (c :: l) = [] :: splitL c l := by rw [splitL, if_pos rfl]
theorem splitL_step {c x : UInt8} {l p : List UInt8} {ps : List (List UInt8)} (h : x ≠ c) (e : splitL c l = p :: ps) : splitL c (x :: l) = (x :: p) :: ps := by rw [splitL, if_neg h, e]
theorem splitL_length (c : UInt8) : ∀ l, (splitL c l).length ≤ l.length + 1
  | [] => by simp [splitL]
  | x :: l => by
    have ih := splitL_length c l
    unfold splitL
    split
    · simp; exact ih
    · split
      · simp
      · rename_i p ps e
        rw [e] at ih
        simp at ih ⊢
        omega
theorem splitL_part (c : UInt8) : ∀ (l p : List UInt8), p ∈ splitL c l → p.length ≤ l.length
  | [], p, h => by simp [splitL] at h; subst h; simp
  | x :: l, p, h => by
    have ih := splitL_part c l
    unfold splitL at h
    split at h
    · rcases List.mem_cons.1 h with rfl | h
      · simp
      · have := ih p h; simp; omega
    · split at h
      · simp at h; subst h; simp
      · rename_i q qs e
        rcases List.mem_cons.1 h with rfl | h
        · have := ih q (by rw [e]; exact List.mem_cons_self ..)
          simp; omega
        · have := ih p (by rw [e]; exact List.mem_cons_of_mem _ h)
          simp; omega
/-- One part more ahead. -/
theorem splitL_append (c : UInt8) : ∀ (p l : List UInt8), c ∉ p → splitL c (p ++ c :: l) = p :: splitL c l
  | [], l, _ => splitL_eq c l
  | x :: p, l, h => by
    have hx : x ≠ c := fun e => h (by rw [e]; exact List.mem_cons_self ..)
    have ih := splitL_append c p l (fun e => h (List.mem_cons_of_mem _ e))
    exact splitL_step hx ih
theorem splitL_none (c : UInt8) : ∀ (p : List UInt8), c ∉ p → splitL c p = [p]
  | [], _ => rfl
  | x :: p, h => by
    have hx : x ≠ c := fun e => h (by rw [e]; exact List.mem_cons_self ..)
    exact splitL_step hx (splitL_none c p (fun e => h (List.mem_cons_of_mem _ e)))
theorem splitK_one (c : UInt8) : ∀ l, splitK [c] 0 (count l [c]) l = splitL c l
  | [] => by rw [count_one]; rfl
  | x :: l => by
    have ih := splitK_one c l
    by_cases h : x = c
    · subst h
      have hix : index (x :: l) [x] = 0 := by rw [index]; simp [List.isPrefixOf]
      rw [count_cons_eq, Nat.add_comm, splitL_eq, splitK, hix]
      simp only [List.length_cons, List.length_nil]
      rw [← ih]
      rfl
    · rw [count_cons_ne x c l h]
      have hp : ([c] : List UInt8).isPrefixOf (x :: l) = false := by simp [List.isPrefixOf, Ne.symm h]
      have hix : index (x :: l) [c] = if index l [c] == -1 then -1 else index l [c] + 1 := by rw [index, hp]; simp
      cases hk : count l [c] with
      | zero =>
        rw [hk] at ih
        rw [splitL_step h ih.symm]
        rfl
      | succ k =>
        have hne : index l [c] ≠ -1 := fun e => by rw [count_miss e] at hk; cases hk
        have hge := index_ge l [c]
        obtain ⟨j, hj⟩ : ∃ j : Nat, index l [c] = j := ⟨(index l [c]).toNat, by omega⟩
        rw [hk, splitK, if_neg (by rw [beq_iff_eq]; exact hne), hj] at ih
        have hix' : index (x :: l) [c] = ((j + 1 : Nat) : Int) := by rw [hix, if_neg (by rw [beq_iff_eq]; exact hne), hj]; omega
        have hneg : ¬ (((j + 1 : Nat) : Int) == -1) = true := by rw [beq_iff_eq]; omega
        rw [splitL_step h ih.symm, splitK, hix', if_neg hneg]
        simp
theorem splitB_parts (c : UInt8) (s : ByteArray) : splitB ⟨#[c]⟩ 0 (countB s ⟨#[c]⟩) s = (splitL c s.data.toList).map mkB := by
  have h := splitB_data ⟨#[c]⟩ 0 (countB s ⟨#[c]⟩) s
  have h2 := splitK_one c s.data.toList
  have h3 : (splitB ⟨#[c]⟩ 0 (countB s ⟨#[c]⟩) s).map (·.data.toList) = splitL c s.data.toList := h.trans h2
  rw [← h3, List.map_map]
  conv => lhs; rw [← List.map_id (splitB _ _ _ _)]
  refine List.map_congr_left fun b _ => ?_
  exact (mkB_of b).symm
theorem countB_parts (c : UInt8) (s : ByteArray) : countB s ⟨#[c]⟩ + 1 = (splitL c s.data.toList).length := by
  have h := splitB_all ⟨#[c]⟩ (Nat.le_refl 1) 0 _ s rfl
  rw [splitB_parts, List.length_map] at h
  exact h.symm

/-- A name's parts: an empty last one, if there are others, is none. -/
def partsL (l : List UInt8) : List (List UInt8) := if 1 < (splitL 46 l).length ∧ (splitL 46 l).getLastD [] = [] then (splitL 46 l).dropLast else splitL 46 l
theorem partsL_ne (l : List UInt8) : partsL l ≠ [] := by
  unfold partsL
  split
  · rename_i h
    intro e
    have := congrArg List.length e
    simp at this
    omega
  · exact splitL_ne 46 l
theorem partsL_length (l : List UInt8) : 1 ≤ (partsL l).length ∧ (partsL l).length ≤ l.length + 1 := by
  refine ⟨List.length_pos_iff.2 (partsL_ne l), ?_⟩
  have := splitL_length 46 l
  unfold partsL
  split
  · simp; omega
  · exact this
theorem partsL_part (l p : List UInt8) (h : p ∈ partsL l) : p.length ≤ l.length := by
  unfold partsL at h
  split at h
  · exact splitL_part 46 l p (List.dropLast_subset _ h)
  · exact splitL_part 46 l p h

/-! ### Numbers -/
def most : Nat := 1099511627776
/-- A byte's value, or one that is above all bases. -/
def figure (c : UInt8) : Nat := if 48 ≤ c.toNat ∧ c.toNat ≤ 57 then c.toNat - 48 else if 97 ≤ c.toNat ∧ c.toNat ≤ 102 then c.toNat - 87 else if 65 ≤ c.toNat ∧ c.toNat ≤ 70 then c.toNat - 55 else 99
theorem figure_le (c : UInt8) : figure c ≤ 99 := by unfold figure; split; omega; split; omega; split; omega; omega
def numR (b : Nat) : List UInt8 → Nat → Option Nat
  | [], n => some n
  | c :: l, n => if figure c < b then numR b l (min (n * b + figure c) most) else none
def numL : List UInt8 → Option Nat
  | [] => none
  | [c] => numR 10 [c] 0
  | c :: d :: l => if c = 48 then (if d = 120 ∨ d = 88 then numR 16 l 0 else numR 8 (d :: l) 0) else numR 10 (c :: d :: l) 0
theorem numR_le (b : Nat) : ∀ (l : List UInt8) (n m : Nat), n ≤ most → numR b l n = some m → m ≤ most
  | [], n, m, h, e => by simp only [numR, Option.some.injEq] at e; omega
  | c :: l, n, m, h, e => by
    unfold numR at e
    split at e
    · exact numR_le b l _ m (Nat.min_le_right _ _) e
    · cases e
theorem numL_le : ∀ (l : List UInt8) (m : Nat), numL l = some m → m ≤ most
  | [], m, e => by cases e
  | [c], m, e => numR_le 10 _ 0 m (Nat.zero_le _) e
  | c :: d :: l, m, e => by
    have e : (if c = 48 then (if d = 120 ∨ d = 88 then numR 16 l 0 else numR 8 (d :: l) 0) else numR 10 (c :: d :: l) 0) = some m := e
    split at e
    · split at e
      · exact numR_le 16 _ 0 m (Nat.zero_le _) e
      · exact numR_le 8 _ 0 m (Nat.zero_le _) e
    · exact numR_le 10 _ 0 m (Nat.zero_le _) e

/-! ### Does it end as an address? -/
def isFig (c : UInt8) : Bool := decide (48 ≤ c.toNat) && decide (c.toNat ≤ 57)
def lastL (l : List UInt8) : List UInt8 := (partsL l).getLastD []
def endsL (l : List UInt8) : Bool := (numL (lastL l)).isSome || (decide (lastL l ≠ []) && (lastL l).all isFig)
def figuresL : List UInt8 := [48, 49, 50, 51, 52, 53, 54, 55, 56, 57]
theorem figures_has (c : UInt8) : figuresL.contains c = isFig c := by
  have h : ∀ n : Fin 256, figuresL.contains (UInt8.ofNat n.val) = isFig (UInt8.ofNat n.val) := by decide +kernel
  have := h ⟨c.toNat, c.toNat_lt⟩
  simpa using this
theorem dropWhile_nil {α : Type} (p : α → Bool) : ∀ l : List α, l.dropWhile p = [] ↔ ∀ x ∈ l, p x = true
  | [] => by simp
  | x :: l => by
    have ih := dropWhile_nil p l
    by_cases h : p x = true
    · simp [List.dropWhile, h, ih]
    · simp [List.dropWhile, h]
theorem trim_figures (l : List UInt8) : trimS l figuresL = [] ↔ l.all isFig = true := by
  have hp : (figuresL.contains ·) = isFig := funext figures_has
  unfold trimS trimLeftS trimRightS
  rw [hp, dropWhile_nil, List.all_eq_true]
  constructor
  · intro h
    have hr : l.reverse.dropWhile isFig = [] := by
      cases e : l.reverse.dropWhile isFig with
      | nil => rfl
      | cons x r =>
        have h1 := List.head?_dropWhile_not isFig l.reverse
        rw [e] at h1
        simp only [List.head?_cons] at h1
        have h2 := h x (by rw [e]; simp)
        rw [h2] at h1
        cases h1
    rw [dropWhile_nil] at hr
    intro x hx
    exact hr x (by simpa using hx)
  · intro h
    have hr : l.reverse.dropWhile isFig = [] := (dropWhile_nil _ _).2 fun x hx => h x (by simpa using hx)
    rw [hr]
    intro x hx
    simp at hx

/-! ### The address -/
/-- The numbers ahead of the last one, from place i on, added to a. -/
def addN : List Nat → Nat → Nat → Option Nat
  | [], _, a => some a
  | n :: l, i, a => if 255 < n then none else addN l (i + 1) (a + n * 256 ^ (3 - i))
/-- What numbers are, or that they are none (nothing: error 3). -/
def joinN (l : List Nat) : Option Nat := if 256 ^ (5 - l.length) ≤ l.getLastD 0 then none else addN l.dropLast 0 (l.getLastD 0)
def numsL (l : List UInt8) : Option (List Nat) := (partsL l).mapM numL
def ansN : Option Nat → Nat × Nat
  | some a => (a, 0)
  | none => (0, 3)
def parseL (l : List UInt8) : Nat × Nat :=
  if (partsL l).all (fun p => (numL p).isSome) = true ∧ (partsL l).length ≤ 4 then ansN (joinN ((partsL l).map fun p => (numL p).getD 0)) else (0, 2)
theorem addN_bound : ∀ (l : List Nat) (i a r : Nat), addN l i a = some r → i + l.length ≤ 3 → r + 256 ^ (4 - (i + l.length)) ≤ a + 256 ^ (4 - i)
  | [], i, a, r, h, hi => by
    simp only [addN, Option.some.injEq] at h
    subst h
    simp
  | n :: l, i, a, r, h, hi => by
    unfold addN at h
    split at h
    · cases h
    · rename_i hn
      have ih := addN_bound l (i + 1) _ r h (by simp at hi; omega)
      simp only [List.length_cons] at hi ⊢
      have e1 : i + 1 + l.length = i + (l.length + 1) := by omega
      rw [e1] at ih
      have hi3 : i ≤ 2 := by omega
      have hm : n * 256 ^ (3 - i) ≤ 255 * 256 ^ (3 - i) := Nat.mul_le_mul_right _ (by omega)
      have e2 : 256 ^ (4 - i) = 256 * 256 ^ (3 - i) := by rw [show 4 - i = (3 - i) + 1 by omega, Nat.pow_succ, Nat.mul_comm]
      have e3 : 4 - (i + 1) = 3 - i := by omega
      rw [e3] at ih
      rw [e2]
      omega
theorem joinN_lt {l : List Nat} {r : Nat} (h : joinN l = some r) (h1 : 1 ≤ l.length) (h4 : l.length ≤ 4) : r < 4294967296 := by
  unfold joinN at h
  split at h
  · cases h
  · rename_i hl
    have := addN_bound l.dropLast 0 _ r h (by simp; omega)
    rw [List.length_dropLast, Nat.zero_add, show 4 - (l.length - 1) = 5 - l.length by omega] at this
    have e : (256 : Nat) ^ (4 - 0) = 4294967296 := by decide
    rw [e] at this
    omega
theorem parseL_lt (l : List UInt8) : (parseL l).1 < 4294967296 := by
  unfold parseL
  split
  · rename_i h
    cases e : joinN ((partsL l).map fun p => (numL p).getD 0) with
    | none => simp [ansN]
    | some a => exact joinN_lt e (by rw [List.length_map]; exact (partsL_length l).1) (by rw [List.length_map]; exact h.2)
  · simp
end Go.Proofs.YtgljkgkmbfhgiaaDoor.Four
