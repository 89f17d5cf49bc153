/- Addresses of eight pieces, plain: pieces, four numbers for the last two, what a text is, an address as a text. -/
import Derived.Test.YtgljkgkmbfhgiaaDoorFourPure
import Derived.Lib.ParseIntB
set_option linter.unusedVariables false
set_option linter.unusedSimpArgs false
namespace Go.Proofs.YtgljkgkmbfhgiaaDoor.Six
open Go.Lib Four

/-! ### Numbers -/
/-- A number of a quad: from 0 to 255, without noughts ahead. -/
def smallL (l : List UInt8) : Option Nat := match parseUintB 8 l with
  | .ok u => if 1 < l.length ∧ l.head? = some 48 then none else some u
  | _ => none
/-- The two pieces that four numbers are. -/
def quadP : List (List UInt8) → Option (Nat × Nat)
  | [a, b, c, d] => match smallL a, smallL b, smallL c, smallL d with
    | some x, some y, some z, some u => some (256 * x + y, 256 * z + u)
    | _, _, _, _ => none
  | _ => none
def quadL (l : List UInt8) : Option (Nat × Nat) := quadP (splitL 46 l)
def hexV : List UInt8 → Nat → Nat
  | [], n => n
  | c :: l, n => hexV l (n * 16 + figure c)
def isHex (c : UInt8) : Bool := decide (figure c < 16)
def pieceL (l : List UInt8) : Option Nat := if 1 ≤ l.length ∧ l.length ≤ 4 ∧ l.all isHex = true then some (hexV l 0) else none
def pieceP (p : List UInt8) (last : Bool) : Option (List Nat) := match quadL p with
  | some q => if last = true then some [q.1, q.2] else (pieceL p).map fun n => [n]
  | none => (pieceL p).map fun n => [n]
def walkL (last : Bool) : List (List UInt8) → Option (List Nat)
  | [] => some []
  | p :: ps => match pieceP p (last && ps.isEmpty) with
    | none => none
    | some x => (walkL last ps).map fun y => x ++ y
/-- The pieces of a text, that may be empty. -/
def listL (l : List UInt8) (last : Bool) : Option (List Nat) := if l = [] then some [] else walkL last (splitL 58 l)
/-- A text cut at its first pair of colons. -/
def cutL : List UInt8 → Option (List UInt8 × List UInt8)
  | [] => none
  | c :: l => if c = 58 ∧ l.head? = some 58 then some ([], l.tail) else (cutL l).map fun p => (c :: p.1, p.2)
/-- The address that a text is. -/
def parse6 (l : List UInt8) : Option (List Nat) := match cutL l with
  | none => (listL l true).bind fun a => if a.length = 8 then some a else none
  | some (h, t) => (listL h false).bind fun a => (listL t true).bind fun b => if a.length + b.length < 8 then some (a ++ List.replicate (8 - (a.length + b.length)) 0 ++ b) else none

/-! ### An address as a text -/
def hexd (n : Nat) : UInt8 := if n < 10 then UInt8.ofNat (48 + n) else UInt8.ofNat (87 + n)
def hexL (n : Nat) : List UInt8 := if h : n < 16 then [hexd n] else hexL (n / 16) ++ [hexd (n % 16)]
termination_by n
decreasing_by omega
def joined (a : List Nat) : List UInt8 := join (a.map hexL) [58]
/-- How many noughts a list begins with. -/
def runN (a : List Nat) : Nat := (a.takeWhile (· == 0)).length
/-- The longest run of two noughts and more, looked for from place i on; where it is, and how many it has. -/
def longN (a : List Nat) : Nat → Nat → Nat × Nat → Nat × Nat
  | 0, i, b => b
  | d + 1, i, b => longN a d (i + 1) (if b.2 < runN (a.drop i) then (i, runN (a.drop i)) else b)
def longest (a : List Nat) : Nat × Nat := longN a 8 0 (0, 1)
def text6 (a : List Nat) : List UInt8 := if (longest a).2 < 2 then joined a else joined (a.take (longest a).1) ++ [58, 58] ++ joined (a.drop ((longest a).1 + (longest a).2))

/-! ### Bounds -/
theorem pu_bound : ∀ (l : List UInt8) (acc u : Nat), acc ≤ 255 → parseUintM 255 acc l = .ok u → u ≤ 255 ∧ l.all isFig = true
  | [], acc, u, h, e => by
    simp only [parseUintM, NumEnd.ok.injEq] at e
    subst e
    exact ⟨h, rfl⟩
  | c :: l, acc, u, h, e => by
    unfold parseUintM at e
    split at e
    · rename_i hc
      split at e
      · cases e
      · split at e
        · cases e
        · obtain ⟨h1, h2⟩ := pu_bound l _ u (by omega) e
          refine ⟨h1, ?_⟩
          rw [List.all_cons, h2]
          unfold isFig
          simp [hc]
    · cases e
theorem small_ok {l : List UInt8} {u : Nat} (h : smallL l = some u) : u ≤ 255 ∧ l.all isFig = true ∧ l ≠ [] := by
  unfold smallL at h
  split at h
  · rename_i v hv
    split at h
    · cases h
    · obtain rfl := Option.some.inj h
      unfold parseUintB at hv
      split at hv
      · cases hv
      · rename_i hne
        obtain ⟨h1, h2⟩ := pu_bound l 0 _ (by omega) hv
        exact ⟨h1, h2, hne⟩
  · cases h
theorem quad_bound {l : List UInt8} {q : Nat × Nat} (h : quadL l = some q) : q.1 < 65536 ∧ q.2 < 65536 := by
  unfold quadL at h
  match hs : splitL 46 l, h with
  | [a, b, c, d], h =>
    simp only [quadP] at h
    split at h
    · rename_i x y z u hx hy hz hu
      obtain rfl := Option.some.inj h
      have := (small_ok hx).1
      have := (small_ok hy).1
      have := (small_ok hz).1
      have := (small_ok hu).1
      exact ⟨by simp only; omega, by simp only; omega⟩
    · cases h
theorem hexV_bound : ∀ (l : List UInt8) (n : Nat), l.all isHex = true → hexV l n < (n + 1) * 16 ^ l.length
  | [], n, h => by simp [hexV]
  | c :: l, n, h => by
    rw [List.all_cons, Bool.and_eq_true] at h
    have hc : figure c < 16 := by simpa [isHex] using h.1
    have ih := hexV_bound l (n * 16 + figure c) h.2
    unfold hexV
    rw [List.length_cons, Nat.pow_succ]
    have h1 : (n * 16 + figure c + 1) * 16 ^ l.length ≤ ((n + 1) * 16) * 16 ^ l.length := Nat.mul_le_mul_right _ (by omega)
    have h2 : ((n + 1) * 16) * 16 ^ l.length = (n + 1) * (16 ^ l.length * 16) := by rw [Nat.mul_assoc, Nat.mul_comm 16]
    omega
theorem piece_bound {l : List UInt8} {n : Nat} (h : pieceL l = some n) : n < 65536 := by
  unfold pieceL at h
  split at h
  · rename_i hc
    obtain rfl := Option.some.inj h
    have h1 := hexV_bound l 0 hc.2.2
    have h2 : 16 ^ l.length ≤ 16 ^ 4 := Nat.pow_le_pow_right (by decide) hc.2.1
    have h3 : (16 : Nat) ^ 4 = 65536 := by decide
    omega
  · cases h
theorem pieceP_bound {p : List UInt8} {b : Bool} {x : List Nat} (h : pieceP p b = some x) : ∀ n ∈ x, n < 65536 := by
  have hp : ∀ x, (pieceL p).map (fun n => [n]) = some x → ∀ n ∈ x, n < 65536 := fun x hx => by
    obtain ⟨m, hm, rfl⟩ := Option.map_eq_some_iff.1 hx
    intro n hn
    rw [List.mem_singleton.1 hn]
    exact piece_bound hm
  unfold pieceP at h
  split at h
  · rename_i q hq
    split at h
    · obtain rfl := Option.some.inj h
      obtain ⟨h1, h2⟩ := quad_bound hq
      intro n hn
      simp only [List.mem_cons, List.not_mem_nil, or_false] at hn
      rcases hn with rfl | rfl
      · exact h1
      · exact h2
    · exact hp x h
  · exact hp x h
theorem walkL_bound (last : Bool) : ∀ (ps : List (List UInt8)) (x : List Nat), walkL last ps = some x → (∀ n ∈ x, n < 65536) ∧ x.length ≤ 2 * ps.length
  | [], x, h => by
    obtain rfl := Option.some.inj h
    simp
  | p :: ps, x, h => by
    unfold walkL at h
    split at h
    · cases h
    · rename_i y hy
      obtain ⟨z, hz, rfl⟩ := Option.map_eq_some_iff.1 h
      obtain ⟨h1, h2⟩ := walkL_bound last ps z hz
      have hl : y.length ≤ 2 := by
        unfold pieceP at hy
        split at hy
        · split at hy
          · obtain rfl := Option.some.inj hy; simp
          · obtain ⟨m, _, rfl⟩ := Option.map_eq_some_iff.1 hy; simp
        · obtain ⟨m, _, rfl⟩ := Option.map_eq_some_iff.1 hy; simp
      refine ⟨fun n hn => ?_, by simp; omega⟩
      rcases List.mem_append.1 hn with hn | hn
      · exact pieceP_bound hy n hn
      · exact h1 n hn
theorem listL_bound {l : List UInt8} {b : Bool} {x : List Nat} (h : listL l b = some x) : (∀ n ∈ x, n < 65536) ∧ x.length ≤ 2 * (l.length + 1) := by
  unfold listL at h
  split at h
  · obtain rfl := Option.some.inj h; simp
  · obtain ⟨h1, h2⟩ := walkL_bound b _ x h
    have := splitL_length 58 l
    exact ⟨h1, by omega⟩
theorem parse6_ok {l : List UInt8} {a : List Nat} (h : parse6 l = some a) : a.length = 8 ∧ ∀ n ∈ a, n < 65536 := by
  unfold parse6 at h
  split at h
  · obtain ⟨x, hx, h⟩ := Option.bind_eq_some_iff.1 h
    by_cases h8 : x.length = 8
    · rw [if_pos h8] at h
      obtain rfl := Option.some.inj h
      exact ⟨h8, (listL_bound hx).1⟩
    · rw [if_neg h8] at h; cases h
  · obtain ⟨x, hx, h⟩ := Option.bind_eq_some_iff.1 h
    obtain ⟨y, hy, h⟩ := Option.bind_eq_some_iff.1 h
    split at h
    · obtain rfl := Option.some.inj h
      refine ⟨by simp; omega, fun n hn => ?_⟩
      rcases List.mem_append.1 hn with hn | hn
      · rcases List.mem_append.1 hn with hn | hn
        · exact (listL_bound hx).1 n hn
        · rw [(List.mem_replicate.1 hn).2]; omega
      · exact (listL_bound hy).1 n hn
    · cases h
end Go.Proofs.YtgljkgkmbfhgiaaDoor.Six
