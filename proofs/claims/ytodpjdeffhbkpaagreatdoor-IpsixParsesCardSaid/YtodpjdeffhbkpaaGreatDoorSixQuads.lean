/- Four numbers for the last two pieces, plain. -/
import Derived.Test.YtodpjdeffhbkpaaGreatDoorSixBack
set_option linter.unusedVariables false
set_option linter.unusedSimpArgs false
namespace Go.Proofs.YtodpjdeffhbkpaaGreatDoor.Six
open Go.Lib Four

theorem pm_step {acc d : Nat} {c : UInt8} {r : List UInt8} (hc : c.toNat = 48 + d) (hd : d ≤ 9) (h : acc * 10 + d ≤ 255) : parseUintM 255 acc (c :: r) = parseUintM 255 (acc * 10 + d) r := by
  conv => lhs; unfold parseUintM
  rw [if_pos (by omega), if_neg (by omega), if_neg (by omega), show c.toNat - 48 = d by omega]
theorem pu_dec (n : Nat) (h : n ≤ 255) : parseUintB 8 (decDigits n) = .ok n := by
  have e : 2 ^ 8 - 1 = 255 := by decide
  unfold parseUintB
  rw [if_neg (dec_ne n), e]
  have hd : ∀ d : Nat, d ≤ 9 → (UInt8.ofNat (48 + d)).toNat = 48 + d := fun d hd => ofNat_nat (by omega)
  by_cases h1 : n < 10
  · rw [dec_lt h1, pm_step (hd n (by omega)) (by omega) (by omega)]
    simp [parseUintM]
  · by_cases h2 : n < 100
    · rw [dec_ge h1, dec_lt (by omega)]
      rw [List.singleton_append, pm_step (hd (n / 10) (by omega)) (by omega) (by omega), pm_step (hd (n % 10) (by omega)) (by omega) (by omega)]
      simp only [parseUintM]
      congr 1
      omega
    · rw [dec_ge h1, dec_ge (by omega), dec_lt (by omega)]
      rw [List.singleton_append, List.cons_append, List.singleton_append, pm_step (hd (n / 10 / 10) (by omega)) (by omega) (by omega), pm_step (hd (n / 10 % 10) (by omega)) (by omega) (by omega), pm_step (hd (n % 10) (by omega)) (by omega) (by omega)]
      simp only [parseUintM]
      congr 1
      omega
theorem small_dec (n : Nat) (h : n ≤ 255) : smallL (decDigits n) = some n := by
  unfold smallL
  rw [pu_dec n h]
  simp only
  rw [if_neg]
  rintro ⟨h1, h2⟩
  by_cases h10 : n < 10
  · rw [dec_lt h10] at h1; simp at h1
  · obtain ⟨c, l, hc, hne⟩ := dec_head n (by omega)
    rw [hc] at h2
    simp at h2
    exact hne h2
def quadT (n0 n1 n2 n3 : Nat) : List UInt8 := decDigits n0 ++ 46 :: (decDigits n1 ++ 46 :: (decDigits n2 ++ 46 :: decDigits n3))
theorem quad_quadT (n0 n1 n2 n3 : Nat) (h0 : n0 ≤ 255) (h1 : n1 ≤ 255) (h2 : n2 ≤ 255) (h3 : n3 ≤ 255) : quadL (quadT n0 n1 n2 n3) = some (256 * n0 + n1, 256 * n2 + n3) := by
  unfold quadL quadT
  rw [split4 (dec_dot _) (dec_dot _) (dec_dot _) (dec_dot _)]
  simp only [quadP, small_dec n0 h0, small_dec n1 h1, small_dec n2 h2, small_dec n3 h3]
theorem dec_colon (n : Nat) : (58 : UInt8) ∉ decDigits n := fun h => by
  have := dec_fig n 58 h
  revert this
  decide
theorem quadT_colon (n0 n1 n2 n3 : Nat) : (58 : UInt8) ∉ quadT n0 n1 n2 n3 := by
  unfold quadT
  simp only [List.mem_append, List.mem_cons, not_or]
  exact ⟨dec_colon _, by decide, dec_colon _, by decide, dec_colon _, by decide, dec_colon _⟩
theorem quadT_ne (n0 n1 n2 n3 : Nat) : quadT n0 n1 n2 n3 ≠ [] := by
  unfold quadT
  simp
theorem walk_snoc (q : List UInt8) (y : List Nat) (hq : pieceP q true = some y) : ∀ a : List Nat, (∀ n ∈ a, n < 65536) → walkL true (a.map hexL ++ [q]) = some (a ++ y)
  | [], _ => by
    show walkL true [q] = some y
    unfold walkL
    simp only [List.isEmpty_nil, Bool.and_true, hq]
    simp [walkL]
  | n :: a, h => by
    rw [List.map_cons, List.cons_append]
    unfold walkL
    rw [pieceP_hex (h n (List.mem_cons_self ..)), walk_snoc q y hq a (fun m hm => h m (List.mem_cons_of_mem _ hm))]
    rfl
theorem parse_pieces_quad (a : List Nat) (h : ∀ n ∈ a, n < 65536) (hne : a ≠ []) (q : List UInt8) (y : List Nat) (hq : pieceP q true = some y) (hc : (58 : UInt8) ∉ q) (hn : q ≠ []) :
    parse6 (joinC (a.map hexL ++ [q])) = if a.length + y.length = 8 then some (a ++ y) else none := by
  have hp : Parts (a.map hexL ++ [q]) := fun p hp => by
    rcases List.mem_append.1 hp with hp | hp
    · exact parts_hex a p hp
    · rw [List.mem_singleton.1 hp]; exact ⟨hc, hn⟩
  have hl : joinC (a.map hexL ++ [q]) ≠ [] := fun e => by
    have hs := split_joinC (a.map hexL ++ [q]) (by simp) (fun p h => (hp p h).1)
    rw [e] at hs
    have : (a.map hexL ++ [q]).length = 1 := by rw [← hs]; rfl
    simp at this
    exact hne this
  unfold parse6
  rw [cut_joinC _ hp]
  simp only
  have : listL (joinC (a.map hexL ++ [q])) true = some (a ++ y) := by
    unfold listL
    rw [if_neg hl, split_joinC _ (by simp) (fun p h => (hp p h).1), walk_snoc q y hq a h]
  rw [this]
  simp
theorem pieceP_quadT (n0 n1 n2 n3 : Nat) (h0 : n0 ≤ 255) (h1 : n1 ≤ 255) (h2 : n2 ≤ 255) (h3 : n3 ≤ 255) : pieceP (quadT n0 n1 n2 n3) true = some [256 * n0 + n1, 256 * n2 + n3] := by
  unfold pieceP
  rw [quad_quadT n0 n1 n2 n3 h0 h1 h2 h3]
  rfl
theorem parse_pair_quad (n0 n1 n2 n3 : Nat) (h0 : n0 ≤ 255) (h1 : n1 ≤ 255) (h2 : n2 ≤ 255) (h3 : n3 ≤ 255) : parse6 (58 :: 58 :: quadT n0 n1 n2 n3) = some [0, 0, 0, 0, 0, 0, 256 * n0 + n1, 256 * n2 + n3] := by
  unfold parse6
  have hc : cutL (58 :: 58 :: quadT n0 n1 n2 n3) = some ([], quadT n0 n1 n2 n3) := cut_here (p := []) (by simp)
  rw [hc]
  have hl : listL (quadT n0 n1 n2 n3) true = some [256 * n0 + n1, 256 * n2 + n3] := by
    unfold listL
    rw [if_neg (quadT_ne _ _ _ _), splitL_none 58 _ (quadT_colon _ _ _ _)]
    exact walk_snoc _ _ (pieceP_quadT n0 n1 n2 n3 h0 h1 h2 h3) [] (by simp)
  have hz : listL [] false = some [] := rfl
  simp only [hl, hz, Option.bind_some]
  rfl
end Go.Proofs.YtodpjdeffhbkpaaGreatDoor.Six
