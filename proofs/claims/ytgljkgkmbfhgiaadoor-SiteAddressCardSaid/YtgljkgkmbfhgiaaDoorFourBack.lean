/- Addresses of four bytes, plain: told there and back. -/
import Derived.Test.YtgljkgkmbfhgiaaDoorFourPure
set_option linter.unusedVariables false
set_option linter.unusedSimpArgs false
namespace Go.Proofs.YtgljkgkmbfhgiaaDoor.Four
open Go.Lib

/-! ### Digits -/
theorem dec_lt {n : Nat} (h : n < 10) : decDigits n = [UInt8.ofNat (48 + n)] := by rw [decDigits, dif_pos h]
theorem dec_ge {n : Nat} (h : ¬ n < 10) : decDigits n = decDigits (n / 10) ++ [UInt8.ofNat (48 + n % 10)] := by rw [decDigits, dif_neg h]
theorem ofNat_nat {k : Nat} (h : k < 256) : (UInt8.ofNat k).toNat = k := by simp; omega
theorem dec_ne (n : Nat) : decDigits n ≠ [] := by
  rw [decDigits]
  split <;> simp
theorem dec_fig (n : Nat) : ∀ c ∈ decDigits n, isFig c = true := by
  induction n using Nat.strongRecOn with
  | _ n ih =>
    by_cases h : n < 10
    · rw [dec_lt h]
      intro c hc
      rw [List.mem_singleton.1 hc]
      unfold isFig
      rw [ofNat_nat (by omega)]
      simp
      omega
    · rw [dec_ge h]
      intro c hc
      rcases List.mem_append.1 hc with hc | hc
      · exact ih (n / 10) (by omega) c hc
      · rw [List.mem_singleton.1 hc]
        unfold isFig
        rw [ofNat_nat (by omega)]
        simp
        omega
theorem fig_not {c : UInt8} (h : isFig c = true) (d : UInt8) (hd : isFig d = false) : c ≠ d := fun e => by rw [e, hd] at h; cases h
theorem dec_dot (n : Nat) : (46 : UInt8) ∉ decDigits n := fun h => by
  have := dec_fig n 46 h
  revert this
  decide
theorem dec_head (n : Nat) (h : 1 ≤ n) : ∃ c l, decDigits n = c :: l ∧ c ≠ 48 := by
  induction n using Nat.strongRecOn with
  | _ n ih =>
    by_cases h10 : n < 10
    · refine ⟨_, _, dec_lt h10, fun e => ?_⟩
      have := congrArg UInt8.toNat e
      rw [ofNat_nat (by omega)] at this
      have e48 : (48 : UInt8).toNat = 48 := rfl
      omega
    · obtain ⟨c, l, h1, h2⟩ := ih (n / 10) (by omega) (by omega)
      exact ⟨c, l ++ [UInt8.ofNat (48 + n % 10)], by rw [dec_ge h10, h1]; rfl, h2⟩
theorem dec_len2 (n : Nat) : ∀ k, n < 10 ^ (k + 1) → 1 ≤ (decDigits n).length ∧ (decDigits n).length ≤ k + 1 := by
  induction n using Nat.strongRecOn with
  | _ n ih =>
    intro k hk
    by_cases h10 : n < 10
    · rw [dec_lt h10]; simp
    · cases k with
      | zero => simp at hk; omega
      | succ k =>
        rw [Nat.pow_succ] at hk
        have := ih (n / 10) (by omega) k (by omega)
        rw [dec_ge h10]
        simp
        omega
theorem figure_dig {n : Nat} (h : n < 10) : figure (UInt8.ofNat (48 + n)) = n := by
  unfold figure
  rw [ofNat_nat (by omega), if_pos (by omega)]
  omega
theorem numR_append (b : Nat) : ∀ (l : List UInt8) (c : UInt8) (m : Nat), numR b (l ++ [c]) m = (numR b l m).bind fun x => if figure c < b then some (min (x * b + figure c) most) else none
  | [], c, m => by simp [numR]
  | d :: l, c, m => by
    rw [List.cons_append]
    show (if figure d < b then numR b (l ++ [c]) (min (m * b + figure d) most) else none) = Option.bind (if figure d < b then numR b l (min (m * b + figure d) most) else none) _
    by_cases h : figure d < b
    · rw [if_pos h, if_pos h, numR_append b l c]
    · rw [if_neg h, if_neg h]; rfl
theorem numR_dec (n : Nat) (h : n ≤ most) : numR 10 (decDigits n) 0 = some n := by
  induction n using Nat.strongRecOn with
  | _ n ih =>
    by_cases h10 : n < 10
    · rw [dec_lt h10]
      simp only [numR, figure_dig h10, if_pos h10, Nat.zero_mul, Nat.zero_add]
      rw [Nat.min_eq_left h]
    · rw [dec_ge h10, numR_append, ih (n / 10) (by omega) (by omega)]
      have : n % 10 < 10 := Nat.mod_lt _ (by decide)
      simp only [Option.bind_some, figure_dig this, if_pos this]
      rw [show n / 10 * 10 + n % 10 = n by omega, Nat.min_eq_left h]
theorem numL_dec (n : Nat) (h : n ≤ most) : numL (decDigits n) = some n := by
  have hr := numR_dec n h
  by_cases h10 : n < 10
  · rw [dec_lt h10] at hr ⊢
    exact hr
  · obtain ⟨c, l, h1, h2⟩ := dec_head n (by omega)
    rw [h1] at hr ⊢
    match l, hr with
    | [], hr => exact hr
    | d :: l, hr =>
      show (if c = 48 then _ else numR 10 (c :: d :: l) 0) = some n
      rw [if_neg h2]
      exact hr

/-! ### Parts -/
theorem partsL_of {l : List UInt8} {ps : List (List UInt8)} (h : splitL 46 l = ps) (hl : ps.getLastD [] ≠ []) : partsL l = ps := by
  unfold partsL
  rw [h, if_neg (fun e => hl e.2)]
theorem partsL_dot {l : List UInt8} {ps : List (List UInt8)} (h : splitL 46 l = ps ++ [[]]) (hp : ps ≠ []) : partsL l = ps := by
  have h1 : 1 ≤ ps.length := List.length_pos_iff.2 hp
  unfold partsL
  rw [h, if_pos ⟨by simp; omega, by simp⟩]
  simp
theorem parts_one {d0 : List UInt8} (h0 : (46 : UInt8) ∉ d0) (hn : d0 ≠ []) : partsL d0 = [d0] := partsL_of (splitL_none 46 d0 h0) (by simpa using hn)
theorem split4 {d0 d1 d2 d3 : List UInt8} (h0 : (46 : UInt8) ∉ d0) (h1 : (46 : UInt8) ∉ d1) (h2 : (46 : UInt8) ∉ d2) (h3 : (46 : UInt8) ∉ d3) : splitL 46 (d0 ++ 46 :: (d1 ++ 46 :: (d2 ++ 46 :: d3))) = [d0, d1, d2, d3] := by
  rw [splitL_append 46 _ _ h0, splitL_append 46 _ _ h1, splitL_append 46 _ _ h2, splitL_none 46 _ h3]
theorem split4_dot {d0 d1 d2 d3 : List UInt8} (h0 : (46 : UInt8) ∉ d0) (h1 : (46 : UInt8) ∉ d1) (h2 : (46 : UInt8) ∉ d2) (h3 : (46 : UInt8) ∉ d3) : splitL 46 (d0 ++ 46 :: (d1 ++ 46 :: (d2 ++ 46 :: (d3 ++ [46])))) = [d0, d1, d2, d3, []] := by
  rw [splitL_append 46 _ _ h0, splitL_append 46 _ _ h1, splitL_append 46 _ _ h2, splitL_append 46 _ _ h3]
  rfl

/-! ### An address as a text -/
/-- Byte k of an address. -/
def byteN (a k : Nat) : Nat := a / 256 ^ (3 - k) % 256
def textL (a : Nat) : List UInt8 := join ((List.range 4).map fun k => decDigits (byteN a k)) [46]
def dN (a k : Nat) : List UInt8 := decDigits (byteN a k)
theorem byteN_lt (a k : Nat) : byteN a k < 256 := Nat.mod_lt _ (by decide)
theorem textL_eq (a : Nat) : textL a = dN a 0 ++ 46 :: (dN a 1 ++ 46 :: (dN a 2 ++ 46 :: dN a 3)) := by
  show join [dN a 0, dN a 1, dN a 2, dN a 3] [46] = _
  simp [join, List.intercalate]
theorem dN_num (a k : Nat) : numL (dN a k) = some (byteN a k) := numL_dec _ (by have := byteN_lt a k; unfold most; omega)
theorem bytes_sum (a : Nat) (h : a < 4294967296) : byteN a 0 * 16777216 + byteN a 1 * 65536 + byteN a 2 * 256 + byteN a 3 = a := by
  have e0 : byteN a 0 = a / 16777216 % 256 := rfl
  have e1 : byteN a 1 = a / 65536 % 256 := rfl
  have e2 : byteN a 2 = a / 256 % 256 := rfl
  have e3 : byteN a 3 = a / 1 % 256 := rfl
  rw [e0, e1, e2, e3]
  omega
theorem join4 (a : Nat) (h : a < 4294967296) : joinN [byteN a 0, byteN a 1, byteN a 2, byteN a 3] = some a := by
  have b0 := byteN_lt a 0
  have b1 := byteN_lt a 1
  have b2 := byteN_lt a 2
  have b3 := byteN_lt a 3
  have hs := bytes_sum a h
  unfold joinN
  rw [if_neg (by simp; omega)]
  show addN [byteN a 0, byteN a 1, byteN a 2] 0 (byteN a 3) = some a
  simp only [addN]
  rw [if_neg (by omega), if_neg (by omega), if_neg (by omega)]
  congr 1
  have : byteN a 3 + byteN a 0 * 256 ^ (3 - 0) + byteN a 1 * 256 ^ (3 - (0 + 1)) + byteN a 2 * 256 ^ (3 - (0 + 1 + 1)) = byteN a 3 + byteN a 0 * 16777216 + byteN a 1 * 65536 + byteN a 2 * 256 := rfl
  rw [this]
  omega
theorem parse_parts {l : List UInt8} {ps : List (List UInt8)} {ns : List Nat} (h : partsL l = ps) (hn : ps.map numL = ns.map some) (h4 : ps.length ≤ 4) : parseL l = ansN (joinN ns) := by
  have ha : (partsL l).all (fun p => (numL p).isSome) = true := by
    rw [h, List.all_eq_true]
    intro p hp
    have : numL p ∈ ps.map numL := List.mem_map.2 ⟨p, hp, rfl⟩
    rw [hn] at this
    obtain ⟨n, _, e⟩ := List.mem_map.1 this
    rw [← e]; rfl
  have hm : (partsL l).map (fun p => (numL p).getD 0) = ns := by
    rw [h]
    have : ps.map (fun p => (numL p).getD 0) = (ps.map numL).map fun o => o.getD 0 := by rw [List.map_map]; rfl
    rw [this, hn, List.map_map]
    conv => rhs; rw [← List.map_id ns]
    rfl
  unfold parseL
  rw [if_pos ⟨ha, by rw [h]; exact h4⟩, hm]
theorem parts4 (a : Nat) : partsL (textL a) = [dN a 0, dN a 1, dN a 2, dN a 3] := by
  rw [textL_eq]
  exact partsL_of (split4 (dec_dot _) (dec_dot _) (dec_dot _) (dec_dot _)) (by simpa [dN] using dec_ne _)
theorem parts4_dot (a : Nat) : partsL (textL a ++ [46]) = [dN a 0, dN a 1, dN a 2, dN a 3] := by
  rw [textL_eq]
  have h := split4_dot (dec_dot (byteN a 0)) (dec_dot (byteN a 1)) (dec_dot (byteN a 2)) (dec_dot (byteN a 3))
  refine partsL_dot (ps := [dN a 0, dN a 1, dN a 2, dN a 3]) ?_ (by simp)
  rw [← show dN a 0 ++ 46 :: (dN a 1 ++ 46 :: (dN a 2 ++ 46 :: (dN a 3 ++ [46]))) = dN a 0 ++ 46 :: (dN a 1 ++ 46 :: (dN a 2 ++ 46 :: dN a 3)) ++ [46] by simp]
  exact h
theorem parse_text (a : Nat) (h : a < 4294967296) : parseL (textL a) = (a, 0) := by
  rw [parse_parts (parts4 a) (ns := [byteN a 0, byteN a 1, byteN a 2, byteN a 3]) (by simp [dN_num]) (by simp), join4 a h]; rfl
theorem parse_text_dot (a : Nat) (h : a < 4294967296) : parseL (textL a ++ [46]) = (a, 0) := by
  rw [parse_parts (parts4_dot a) (ns := [byteN a 0, byteN a 1, byteN a 2, byteN a 3]) (by simp [dN_num]) (by simp), join4 a h]; rfl
theorem parse_five (a : Nat) : parseL (48 :: 46 :: textL a) = (0, 2) := by
  have h : partsL (48 :: 46 :: textL a) = [[48], dN a 0, dN a 1, dN a 2, dN a 3] := by
    refine partsL_of ?_ (by simpa [dN] using dec_ne _)
    rw [show (48 : UInt8) :: 46 :: textL a = [48] ++ 46 :: textL a from rfl, splitL_append 46 _ _ (by decide), textL_eq]
    exact congrArg _ (split4 (dec_dot _) (dec_dot _) (dec_dot _) (dec_dot _))
  unfold parseL
  rw [if_neg]
  rw [h]
  rintro ⟨_, h4⟩
  simp at h4
theorem ends_of_parse {l : List UInt8} (h : (parseL l).2 = 0) : endsL l = true := by
  unfold parseL at h
  split at h
  · rename_i hc
    have hlast : lastL l ∈ partsL l := by
      unfold lastL
      rw [List.getLastD_eq_getLast?, List.getLast?_eq_some_getLast (partsL_ne l)]
      exact List.getLast_mem _
    have := List.all_eq_true.1 hc.1 _ hlast
    unfold endsL
    rw [this]
    rfl
  · cases h
theorem text_len (a : Nat) : 7 ≤ (textL a).length ∧ (textL a).length ≤ 15 := by
  have h : ∀ k, 1 ≤ (dN a k).length ∧ (dN a k).length ≤ 3 := fun k => dec_len2 _ 2 (by have := byteN_lt a k; omega)
  have h0 := h 0
  have h1 := h 1
  have h2 := h 2
  have h3 := h 3
  rw [textL_eq]
  simp
  omega
/-- What parts are, when the last one has the bytes of those that are left out. -/
theorem parse_one (a : Nat) (h : a < 4294967296) : parseL (decDigits a) = (a, 0) := by
  rw [parse_parts (parts_one (dec_dot a) (dec_ne a)) (ns := [a]) (by simp [numL_dec a (by unfold most; omega)]) (by simp)]
  have : joinN [a] = some a := by
    unfold joinN
    rw [if_neg (by simp; omega)]
    rfl
  rw [this]; rfl
theorem parse_two (n a : Nat) (hn : n < 256) (h : a < 16777216) : parseL (decDigits n ++ 46 :: decDigits a) = (n * 16777216 + a, 0) := by
  have hp : partsL (decDigits n ++ 46 :: decDigits a) = [decDigits n, decDigits a] := by
    refine partsL_of ?_ (by simpa [dN] using dec_ne _)
    rw [splitL_append 46 _ _ (dec_dot n), splitL_none 46 _ (dec_dot a)]
  rw [parse_parts hp (ns := [n, a]) (by simp [numL_dec a (by unfold most; omega), numL_dec n (by unfold most; omega)]) (by simp)]
  have : joinN [n, a] = some (n * 16777216 + a) := by
    unfold joinN
    rw [if_neg (by simp; omega)]
    show addN [n] 0 a = _
    simp only [addN]
    rw [if_neg (by omega)]
    congr 1
    have : a + n * 256 ^ (3 - 0) = a + n * 16777216 := rfl
    omega
  rw [this]; rfl
theorem parse_three (n a : Nat) (hn : n < 256) (h : a < 65536) : parseL (decDigits n ++ 46 :: ([48, 120, 49] ++ 46 :: decDigits a)) = (n * 16777216 + 65536 + a, 0) := by
  have hp : partsL (decDigits n ++ 46 :: ([48, 120, 49] ++ 46 :: decDigits a)) = [decDigits n, [48, 120, 49], decDigits a] := by
    refine partsL_of ?_ (by simpa [dN] using dec_ne _)
    rw [splitL_append 46 _ _ (dec_dot n), splitL_append 46 _ _ (by decide), splitL_none 46 _ (dec_dot a)]
  rw [parse_parts hp (ns := [n, 1, a]) (by simp [numL_dec a (by unfold most; omega), numL_dec n (by unfold most; omega)]; decide) (by simp)]
  have : joinN [n, 1, a] = some (n * 16777216 + 65536 + a) := by
    unfold joinN
    rw [if_neg (by simp; omega)]
    show addN [n, 1] 0 a = _
    simp only [addN]
    rw [if_neg (by omega), if_neg (by omega)]
    congr 1
    have : a + n * 256 ^ (3 - 0) + 1 * 256 ^ (3 - (0 + 1)) = a + n * 16777216 + 65536 := rfl
    omega
  rw [this]; rfl
end Go.Proofs.YtgljkgkmbfhgiaaDoor.Four
