/- Addresses of eight pieces, plain: told there and back; four numbers for the last two. -/
import Derived.Test.YtgljkgkmbfhgiaaDoorSixPure
import Derived.Test.YtgljkgkmbfhgiaaDoorFourBack
set_option linter.unusedVariables false
set_option linter.unusedSimpArgs false
namespace Go.Proofs.YtgljkgkmbfhgiaaDoor.Six
open Go.Lib Four

/-! ### Digits -/
theorem hexd_figure {n : Nat} (h : n < 16) : figure (hexd n) = n := by
  have : ∀ k : Fin 16, figure (hexd k.val) = k.val := by decide +kernel
  exact this ⟨n, h⟩
theorem hexd_not {n : Nat} (h : n < 16) : hexd n ≠ 58 ∧ hexd n ≠ 46 := by
  have : ∀ k : Fin 16, hexd k.val ≠ 58 ∧ hexd k.val ≠ 46 := by decide +kernel
  exact this ⟨n, h⟩
theorem hex_lt {n : Nat} (h : n < 16) : hexL n = [hexd n] := by rw [hexL, dif_pos h]
theorem hex_ge {n : Nat} (h : ¬ n < 16) : hexL n = hexL (n / 16) ++ [hexd (n % 16)] := by rw [hexL, dif_neg h]
theorem hex_ne (n : Nat) : hexL n ≠ [] := by
  rw [hexL]
  split <;> simp
theorem hex_all (n : Nat) : ∀ c ∈ hexL n, figure c < 16 ∧ c ≠ 58 ∧ c ≠ 46 := by
  induction n using Nat.strongRecOn with
  | _ n ih =>
    by_cases h : n < 16
    · rw [hex_lt h]
      intro c hc
      rw [List.mem_singleton.1 hc, hexd_figure h]
      exact ⟨h, hexd_not h⟩
    · rw [hex_ge h]
      intro c hc
      rcases List.mem_append.1 hc with hc | hc
      · exact ih (n / 16) (by omega) c hc
      · have h2 : n % 16 < 16 := by omega
        rw [List.mem_singleton.1 hc, hexd_figure h2]
        exact ⟨h2, hexd_not h2⟩
theorem hex_len (n : Nat) : ∀ k, n < 16 ^ (k + 1) → 1 ≤ (hexL n).length ∧ (hexL n).length ≤ k + 1 := by
  induction n using Nat.strongRecOn with
  | _ n ih =>
    intro k hk
    by_cases h : n < 16
    · rw [hex_lt h]; simp
    · cases k with
      | zero => simp at hk; omega
      | succ k =>
        rw [Nat.pow_succ] at hk
        have := ih (n / 16) (by omega) k (by omega)
        rw [hex_ge h]
        simp
        omega
theorem hex_len4 {n : Nat} (h : n < 65536) : 1 ≤ (hexL n).length ∧ (hexL n).length ≤ 4 := hex_len n 3 (by have : (16 : Nat) ^ 4 = 65536 := by decide
                                                                                                          omega)
theorem hexV_append : ∀ (l : List UInt8) (c : UInt8) (m : Nat), hexV (l ++ [c]) m = hexV l m * 16 + figure c
  | [], c, m => rfl
  | d :: l, c, m => by
    rw [List.cons_append]
    exact hexV_append l c _
theorem hexV_hex (n : Nat) : hexV (hexL n) 0 = n := by
  induction n using Nat.strongRecOn with
  | _ n ih =>
    by_cases h : n < 16
    · rw [hex_lt h]
      show 0 * 16 + figure (hexd n) = n
      rw [hexd_figure h]; omega
    · rw [hex_ge h, hexV_append, ih (n / 16) (by omega), hexd_figure (by omega)]
      omega
theorem piece_hex {n : Nat} (h : n < 65536) : pieceL (hexL n) = some n := by
  have hl := hex_len4 h
  unfold pieceL
  rw [if_pos ⟨hl.1, hl.2, List.all_eq_true.2 fun c hc => by simpa [isHex] using (hex_all n c hc).1⟩, hexV_hex]
theorem quad_hex (n : Nat) : quadL (hexL n) = none := by
  unfold quadL
  rw [splitL_none 46 _ (fun h => (hex_all n 46 h).2.2 rfl)]
  rfl
theorem pieceP_hex {n : Nat} (h : n < 65536) (b : Bool) : pieceP (hexL n) b = some [n] := by
  unfold pieceP
  rw [quad_hex, piece_hex h]
  rfl

/-! ### Pieces -/
def joinC : List (List UInt8) → List UInt8
  | [] => []
  | [x] => x
  | x :: y :: r => x ++ 58 :: joinC (y :: r)
theorem join_joinC : ∀ ps : List (List UInt8), join ps [58] = joinC ps
  | [] => rfl
  | [x] => by simp [join, List.intercalate, joinC]
  | x :: y :: r => by
    rw [joinC, ← join_joinC (y :: r)]
    simp [join, List.intercalate]
theorem joinC_cons (x : List UInt8) {r : List (List UInt8)} (h : r ≠ []) : joinC (x :: r) = x ++ 58 :: joinC r := by
  cases r with
  | nil => exact absurd rfl h
  | cons y r => rfl
theorem split_joinC : ∀ ps : List (List UInt8), ps ≠ [] → (∀ p ∈ ps, (58 : UInt8) ∉ p) → splitL 58 (joinC ps) = ps
  | [], h, _ => absurd rfl h
  | [x], _, h => splitL_none 58 x (h x (List.mem_singleton.2 rfl))
  | x :: y :: r, _, h => by
    rw [joinC, splitL_append 58 _ _ (h x (List.mem_cons_self ..)), split_joinC (y :: r) (by simp) (fun p hp => h p (List.mem_cons_of_mem _ hp))]
/-- Parts of a list that all are pieces. -/
def Parts (ps : List (List UInt8)) : Prop := ∀ p ∈ ps, (58 : UInt8) ∉ p ∧ p ≠ []
theorem cutL_cons (c : UInt8) (l : List UInt8) : cutL (c :: l) = if c = 58 ∧ l.head? = some 58 then some ([], l.tail) else (cutL l).map fun p => (c :: p.1, p.2) := rfl
theorem cut_none {p : List UInt8} (h : (58 : UInt8) ∉ p) : cutL p = none := by
  induction p with
  | nil => rfl
  | cons c p ih =>
    rw [cutL_cons]
    rw [if_neg (fun e => h (by rw [e.1]; exact List.mem_cons_self ..)), ih (fun e => h (List.mem_cons_of_mem _ e))]
    rfl
theorem cut_step {p q : List UInt8} (h : (58 : UInt8) ∉ p) (hq : q.head? ≠ some 58) : cutL (p ++ 58 :: q) = (cutL q).map fun r => (p ++ 58 :: r.1, r.2) := by
  induction p with
  | nil =>
    rw [List.nil_append]
    rw [cutL_cons]
    rw [if_neg (fun e => hq e.2)]
    rfl
  | cons c p ih =>
    rw [List.cons_append]
    rw [cutL_cons]
    rw [if_neg (fun e => h (by rw [e.1]; exact List.mem_cons_self ..)), ih (fun e => h (List.mem_cons_of_mem _ e)), Option.map_map]
    rfl
theorem cut_here {p t : List UInt8} (h : (58 : UInt8) ∉ p) : cutL (p ++ 58 :: 58 :: t) = some (p, t) := by
  induction p with
  | nil =>
    rw [List.nil_append]
    rw [cutL_cons]
    rw [if_pos ⟨rfl, rfl⟩]
    rfl
  | cons c p ih =>
    rw [List.cons_append]
    rw [cutL_cons]
    rw [if_neg (fun e => h (by rw [e.1]; exact List.mem_cons_self ..)), ih (fun e => h (List.mem_cons_of_mem _ e))]
    rfl
theorem joinC_head {ps : List (List UInt8)} (h : Parts ps) (hn : ps ≠ []) (t : List UInt8) : (joinC ps ++ t).head? ≠ some 58 := by
  match ps, h, hn with
  | [x], h, _ =>
    obtain ⟨h1, h2⟩ := h x (List.mem_singleton.2 rfl)
    cases x with
    | nil => exact absurd rfl h2
    | cons c l => simp [joinC]; exact fun e => h1 (by rw [e]; exact List.mem_cons_self ..)
  | x :: y :: r, h, _ =>
    obtain ⟨h1, h2⟩ := h x (List.mem_cons_self ..)
    cases x with
    | nil => exact absurd rfl h2
    | cons c l => simp [joinC]; exact fun e => h1 (by rw [e]; exact List.mem_cons_self ..)
theorem cut_joinC : ∀ ps : List (List UInt8), Parts ps → cutL (joinC ps) = none
  | [], _ => rfl
  | [x], h => cut_none (h x (List.mem_singleton.2 rfl)).1
  | x :: y :: r, h => by
    have hr : Parts (y :: r) := fun p hp => h p (List.mem_cons_of_mem _ hp)
    have hh := joinC_head hr (by simp) []
    rw [List.append_nil] at hh
    rw [joinC, cut_step (h x (List.mem_cons_self ..)).1 hh, cut_joinC (y :: r) hr]
    rfl
theorem cut_pair : ∀ (ps : List (List UInt8)) (t : List UInt8), Parts ps → cutL (joinC ps ++ 58 :: 58 :: t) = some (joinC ps, t)
  | [], t, _ => cut_here (p := []) (by simp)
  | [x], t, h => cut_here (h x (List.mem_singleton.2 rfl)).1
  | x :: y :: r, t, h => by
    have hr : Parts (y :: r) := fun p hp => h p (List.mem_cons_of_mem _ hp)
    have hh := joinC_head hr (by simp) (58 :: 58 :: t)
    rw [joinC, List.append_assoc, List.cons_append, cut_step (h x (List.mem_cons_self ..)).1 hh, cut_pair (y :: r) t hr]
    rfl
theorem parts_hex (a : List Nat) : Parts (a.map hexL) := fun p hp => by
  obtain ⟨n, _, rfl⟩ := List.mem_map.1 hp
  exact ⟨fun h => (hex_all n 58 h).2.1 rfl, hex_ne n⟩
theorem walk_hex (b : Bool) : ∀ a : List Nat, (∀ n ∈ a, n < 65536) → walkL b (a.map hexL) = some a
  | [], _ => rfl
  | n :: a, h => by
    rw [List.map_cons]
    unfold walkL
    rw [pieceP_hex (h n (List.mem_cons_self ..)), walk_hex b a (fun m hm => h m (List.mem_cons_of_mem _ hm))]
    rfl
theorem joined_ne {a : List Nat} (h : a ≠ []) : joined a ≠ [] := by
  unfold joined
  rw [join_joinC]
  intro e
  have := joinC_head (parts_hex a) (by simpa using h) []
  cases a with
  | nil => exact h rfl
  | cons n a =>
    have hs := split_joinC ((n :: a).map hexL) (by simp) (fun p hp => (parts_hex (n :: a) p hp).1)
    rw [e] at hs
    simp only [splitL, List.map_cons, List.cons.injEq] at hs
    exact hex_ne n hs.1.symm
theorem list_joined (b : Bool) (a : List Nat) (h : ∀ n ∈ a, n < 65536) : listL (joined a) b = some a := by
  by_cases h0 : a = []
  · subst h0; rfl
  · unfold listL
    rw [if_neg (joined_ne h0)]
    unfold joined
    rw [join_joinC, split_joinC _ (by simpa using h0) (fun p hp => (parts_hex a p hp).1), walk_hex b a h]

/-! ### The longest run -/
theorem runN_le (a : List Nat) : runN a ≤ a.length := by
  unfold runN
  exact (List.takeWhile_sublist _).length_le
theorem runN_zero : ∀ (a : List Nat) (n : Nat), n ≤ runN a → a.take n = List.replicate n 0
  | [], n, h => by
    have : n = 0 := by simp [runN] at h; exact h
    subst this; rfl
  | x :: a, 0, _ => rfl
  | x :: a, n + 1, h => by
    by_cases hx : x = 0
    · subst hx
      have h2 : n ≤ runN a := by simpa [runN] using h
      rw [List.take_succ_cons, runN_zero a n h2]
      rfl
    · exfalso
      simp [runN, hx] at h
theorem longN_ok (a : List Nat) : ∀ (d i : Nat) (b : Nat × Nat), (b.2 < 2 ∨ b.2 ≤ runN (a.drop b.1)) → ((longN a d i b).2 < 2 ∨ (longN a d i b).2 ≤ runN (a.drop (longN a d i b).1))
  | 0, i, b, h => h
  | d + 1, i, b, h => by
    unfold longN
    refine longN_ok a d (i + 1) _ ?_
    split
    · exact .inr (Nat.le_refl _)
    · exact h
theorem longest_ok (a : List Nat) (h : ¬ (longest a).2 < 2) : a = a.take (longest a).1 ++ List.replicate (longest a).2 0 ++ a.drop ((longest a).1 + (longest a).2) ∧ (longest a).1 + (longest a).2 ≤ a.length := by
  have h1 := longN_ok a 8 0 (0, 1) (.inl (by simp))
  have h2 : (longest a).2 ≤ runN (a.drop (longest a).1) := h1.resolve_left h
  generalize longest a = b at h h2 ⊢
  have h3 := runN_zero _ _ h2
  have h4 := runN_le (a.drop b.1)
  rw [List.length_drop] at h4
  refine ⟨?_, by omega⟩
  rw [← h3, ← List.drop_drop, List.append_assoc, List.take_append_drop, List.take_append_drop]
theorem parse_text6 (a : List Nat) (h8 : a.length = 8) (h : ∀ n ∈ a, n < 65536) : parse6 (text6 a) = some a := by
  unfold text6
  by_cases hl : (longest a).2 < 2
  · rw [if_pos hl]
    unfold parse6
    have hc : cutL (joined a) = none := by unfold joined; rw [join_joinC]; exact cut_joinC _ (parts_hex a)
    rw [hc]
    simp only [list_joined true a h, Option.bind_some, h8, if_true]
  · rw [if_neg hl]
    obtain ⟨h1, h2⟩ := longest_ok a hl
    generalize longest a = b at hl h1 h2 ⊢
    have hc : cutL (joined (a.take b.1) ++ [58, 58] ++ joined (a.drop (b.1 + b.2))) = some (joined (a.take b.1), joined (a.drop (b.1 + b.2))) := by
      rw [List.append_assoc]
      unfold joined
      rw [join_joinC, join_joinC]
      exact cut_pair _ _ (parts_hex _)
    unfold parse6
    rw [hc]
    have ha := list_joined false (a.take b.1) (fun n hn => h n (List.mem_of_mem_take hn))
    have hb := list_joined true (a.drop (b.1 + b.2)) (fun n hn => h n (List.mem_of_mem_drop hn))
    simp only [ha, hb, Option.bind_some]
    rw [List.length_take, List.length_drop, if_pos (by omega)]
    rw [show 8 - (min b.1 a.length + (a.length - (b.1 + b.2))) = b.2 by omega, ← h1]
theorem text6_inj {a b : List Nat} (ha : a.length = 8) (hb : b.length = 8) (h1 : ∀ n ∈ a, n < 65536) (h2 : ∀ n ∈ b, n < 65536) : text6 a = text6 b ↔ a = b := by
  constructor
  · intro e
    have h3 := parse_text6 a ha h1
    rw [e, parse_text6 b hb h2] at h3
    exact (Option.some.inj h3).symm
  · intro e; rw [e]
theorem joined_len (a : List Nat) (h : ∀ n ∈ a, n < 65536) : (joined a).length + 1 ≤ 5 * a.length + 1 ∧ (a ≠ [] → 2 * a.length ≤ (joined a).length + 1) := by
  have key : ∀ ps : List (List UInt8), (∀ p ∈ ps, 1 ≤ p.length ∧ p.length ≤ 4) → (joinC ps).length ≤ 5 * ps.length ∧ (ps ≠ [] → 2 * ps.length ≤ (joinC ps).length + 1) := by
    intro ps
    induction ps with
    | nil => intro _; simp [joinC]
    | cons x r ih =>
      intro hp
      have hx := hp x (List.mem_cons_self ..)
      have hr := ih (fun p hp' => hp p (List.mem_cons_of_mem _ hp'))
      cases r with
      | nil => simp [joinC]; omega
      | cons y r =>
        have := hr.2 (by simp)
        have := hr.1
        rw [joinC]
        simp only [List.length_append, List.length_cons] at *
        omega
  have := key (a.map hexL) (fun p hp => by
    obtain ⟨n, hn, rfl⟩ := List.mem_map.1 hp
    exact hex_len4 (h n hn))
  unfold joined
  rw [join_joinC]
  rw [List.length_map] at this
  refine ⟨by omega, fun h0 => this.2 (by simpa using h0)⟩
theorem text6_len (a : List Nat) (h8 : a.length = 8) (h : ∀ n ∈ a, n < 65536) : 2 ≤ (text6 a).length ∧ (text6 a).length ≤ 39 := by
  unfold text6
  by_cases hl : (longest a).2 < 2
  · rw [if_pos hl]
    have key : ∀ ps : List (List UInt8), (∀ p ∈ ps, p.length ≤ 4) → ps ≠ [] → (joinC ps).length + 1 ≤ 5 * ps.length := by
      intro ps
      induction ps with
      | nil => intro _ h0; exact absurd rfl h0
      | cons x r ih =>
        intro hp _
        have hx := hp x (List.mem_cons_self ..)
        cases r with
        | nil => simp [joinC]; omega
        | cons y r =>
          have := ih (fun p hp' => hp p (List.mem_cons_of_mem _ hp')) (by simp)
          rw [joinC]
          simp only [List.length_append, List.length_cons] at *
          omega
    have hne : a ≠ [] := by intro e; rw [e] at h8; cases h8
    have h1 := (joined_len a h).2 hne
    have h2 := key (a.map hexL) (fun p hp => by
      obtain ⟨n, hn, rfl⟩ := List.mem_map.1 hp
      exact (hex_len4 (h n hn)).2) (by simpa using hne)
    rw [List.length_map] at h2
    unfold joined at *
    rw [join_joinC] at *
    omega
  · rw [if_neg hl]
    obtain ⟨_, h2⟩ := longest_ok a hl
    have h3 := (joined_len (a.take (longest a).1) (fun n hn => h n (List.mem_of_mem_take hn))).1
    have h4 := (joined_len (a.drop ((longest a).1 + (longest a).2)) (fun n hn => h n (List.mem_of_mem_drop hn))).1
    simp only [List.length_append, List.length_cons, List.length_nil, List.length_take, List.length_drop] at *
    omega
end Go.Proofs.YtgljkgkmbfhgiaaDoor.Six
