/- ipsix: the longest run of noughts. -/
import Derived.Test.YtodpjdeffhbkpaaGreatDoorSixParse
import Derived.Test.YtodpjdeffhbkpaaGreatDoorSixBack
set_option linter.unusedVariables false
set_option linter.unusedSimpArgs false
set_option maxRecDepth 100000
namespace Go.Proofs.YtodpjdeffhbkpaaGreatDoor
open Go.RowKit Four Six

def cellsA (a : List Nat) : List Value := a.map fun (n : Nat) => .int .u16 n
def bestN (a : List Nat) (i : Nat) (b : Nat × Nat) : Nat × Nat := if b.2 < Six.runN (a.drop i) then (i, Six.runN (a.drop i)) else b
def midN (i k : Nat) (b : Nat × Nat) : Nat × Nat := if b.2 < k - i then (i, k - i) else b
theorem run_at (a : List Nat) (i k : Nat) (hik : i ≤ k) (hz : ∀ j, i ≤ j → j < k → a[j]? = some 0) (he : a[k]? ≠ some 0) : Six.runN (a.drop i) = k - i := by
  induction hd : k - i generalizing i with
  | zero =>
    have : i = k := by omega
    subst this
    unfold Six.runN
    cases h : a.drop i with
    | nil => rfl
    | cons x l =>
      have : a[i]? = some x := by rw [← List.head?_drop, h]; rfl
      rw [this] at he
      have hx : (x == 0) = false := by simp; exact fun e => he (by rw [e])
      simp [List.takeWhile, hx]
  | succ d ih =>
    have h0 := hz i (Nat.le_refl _) (by omega)
    have hdr : a.drop i = 0 :: a.drop (i + 1) := by
      obtain ⟨hi, hv⟩ := List.getElem?_eq_some_iff.1 h0
      rw [List.drop_eq_getElem_cons hi, hv]
    have := ih (i + 1) (by omega) (fun j h1 h2 => hz j (by omega) h2) (by omega)
    unfold Six.runN at this ⊢
    rw [hdr]
    simp [List.takeWhile, this]
theorem mid_best (a : List Nat) (i k : Nat) (b : Nat × Nat) (hik : i ≤ k) (hz : ∀ j, i ≤ j → j < k → a[j]? = some 0) (he : a[k]? ≠ some 0) : midN i k b = bestN a i b := by
  unfold midN bestN
  rw [run_at a i k hik hz he]
theorem mid_next (i k : Nat) (b : Nat × Nat) (hik : i ≤ k) : midN i (k + 1) b = if (midN i k b).2 < k + 1 - i then (i, k + 1 - i) else midN i k b := by
  unfold midN
  by_cases h1 : b.2 < k - i
  · rw [if_pos (by omega), if_pos h1, if_pos (by simp only; omega)]
  · rw [if_neg h1]
theorem mid_le (i k : Nat) (b : Nat × Nat) (hi : i ≤ 8) (hk : k ≤ 8) (h1 : b.1 ≤ 8) (h2 : b.2 ≤ 8) : (midN i k b).1 ≤ 8 ∧ (midN i k b).2 ≤ 8 := by
  unfold midN
  split
  · exact ⟨hi, by simp only; omega⟩
  · exact ⟨h1, h2⟩
set_option maxHeartbeats 8000000 in
theorem longest_calls (a : List Nat) (h8 : a.length = 8) (w : World) :
    Calls Tryz.prog 23 #[.agg (cellsA a).toArray] w fun e w' => e = .returned (.tuple #[.int .i64 (longest a).1, .int .i64 (longest a).2]) ∧ Below w.heap.size w w' := by
  have HL := Lib.hid (show longest a = longN a (8 - 0) 0 (0, 1) from rfl)
  obtain ⟨W, hW⟩ : ∃ W, W = w.alloc (.cells (cellsA a).toArray 23) := ⟨_, rfl⟩
  have HB := Lib.hid (show Below w.heap.size w W by rw [hW]; exact (Below.refl _ _).alloc (Nat.le_refl _) _)
  have HC := Lib.hid (show ∀ (k n : Nat), a[k]? = some n → W.cell? ⟨w.heap.size, k, none⟩ = some (.int .u16 n) by
    intro k n hn
    rw [hW, (Blk.new w _ _).cell]
    simp [cellsA, hn])
  obtain ⟨x, y, hx⟩ : ∃ x y, (x, y) = longest a := ⟨_, _, rfl⟩
  rw [← hx] at HL ⊢
  clear hx
  match a, h8 with
  | [x0, x1, x2, x3, x4, x5, x6, x7], h8 =>
    have HW2 := Lib.hid (show w.alloc (.cells #[.int .u16 x0, .int .u16 x1, .int .u16 x2, .int .u16 x3, .int .u16 x4, .int .u16 x5, .int .u16 x6, .int .u16 x7] 23) = W from hW.symm)
    clear hW
    simp only [cellsA, List.map_cons, List.map_nil]
    go_enter Tryz.func23, Tryz.ntmps23
    go_wp2_with fail
    go_step3
    go_wp2_with fail
    rw [HW2.out]
    have HX := Lib.hid h8
    generalize [x0, x1, x2, x3, x4, x5, x6, x7] = a at HL HC HX
    clear HW2 h8
    go_step3
    go_wp2_with fail
    go_loopg [6, 4, 5] 8 (fun m v6 v4 v5 w' => W = w' ∧ Hid (∃ (i : Nat) (b : Nat × Nat), i ≤ 8 ∧ m = 8 - i ∧ v6 = .int .i64 i ∧ v4 = .int .i64 b.1 ∧ v5 = .int .i64 b.2 ∧ b.1 ≤ 8 ∧ b.2 ≤ 8 ∧ (x, y) = longN a (8 - i) i b))
    case atStart => exact ⟨rfl, 0, (0, 1), by omega, rfl, rfl, rfl, rfl, by omega, by omega, HL.out⟩
    case round =>
      obtain ⟨rfl, hrel⟩ := hrel
      obtain ⟨i, b, hi, hm, rfl, rfl, rfl, hb1, hb2, hL⟩ := hrel.out
      clear hrel HL
      have HM := Lib.hid hm
      have HLL := Lib.hid hL
      clear hm hL
      by_cases h8 : i < 8
      · have hi7 : decide ((i : Int) < 8) = true := by simp; omega
        go_wp2_with fail
        go_loopg [7, 4, 5] (8 - i) (fun m2 v7 v4 v5 w' => W = w' ∧ Hid (∃ (k : Nat) (b' : Nat × Nat), i ≤ k ∧ k ≤ 8 ∧ m2 = 8 - k ∧ v7 = .int .i64 k ∧ v4 = .int .i64 b'.1 ∧ v5 = .int .i64 b'.2 ∧ b' = midN i k b ∧ (∀ j, i ≤ j → j < k → a[j]? = some 0)))
        case atStart => exact ⟨rfl, i, b, by omega, by omega, rfl, rfl, rfl, rfl, by unfold midN; rw [if_neg (by omega)], fun j h1 h2 => by omega⟩
        case round =>
          obtain ⟨rfl, hrel⟩ := hrel
          obtain ⟨k, b', hik, hk, hm2, rfl, rfl, rfl, hb', hz⟩ := hrel.out
          have hbb := mid_le i k b (by omega) hk hb1 hb2
          rw [← hb'] at hbb
          obtain ⟨c1, c2⟩ := hbb
          have HM2 := Lib.hid hm2
          have HZ := Lib.hid hz
          have HB' := Lib.hid hb'
          have hstep : a[k]? ≠ some 0 → (x, y) = longN a (8 - (i + 1)) (i + 1) b' := fun h => by
            have := HLL.out
            rw [show 8 - i = (8 - (i + 1)) + 1 by omega, longN] at this
            rw [HB'.out, mid_best a i k b hik HZ.out h]
            exact this
          have HS := Lib.hid hstep
          clear hrel hm2 hz hb' hstep
          by_cases hk8 : k < 8
          · obtain ⟨n, hn⟩ : ∃ n, a[k]? = some n := ⟨a[k]'(by rw [HX.out]; exact hk8), List.getElem?_eq_getElem _⟩
            have hcell := HC.out k n hn
            have HN := Lib.hid hn
            clear hn
            by_cases h0 : n = 0
            · subst h0
              have hz2 : ∀ j, i ≤ j → j < k + 1 → a[j]? = some 0 := fun j h1 h2 => by
                by_cases e : j = k
                · rw [e]; exact HN.out
                · exact HZ.out j h1 (by omega)
              have HZ2 := Lib.hid hz2
              clear hz2
              by_cases hgt : b'.2 < k + 1 - i
              · have HB2 := Lib.hid (show ((i, k + 1 - i) : Nat × Nat) = midN i (k + 1) b by rw [mid_next i k b hik, ← HB'.out, if_pos hgt])
                have hgt' : (b'.2 : Int) < (k : Int) - (i : Int) + 1 := by omega
                clear hgt
                go_wp2_with fail
                go_roundg (8 - (k + 1))
                case measure => have := HM2.out; omega
                case rel => exact ⟨rfl, k + 1, (i, k + 1 - i), by omega, by omega, rfl, by first | rfl | go_num, rfl, by first | rfl | (congr 1; simp only; omega), HB2.out, HZ2.out⟩
              · have HB2 := Lib.hid (show b' = midN i (k + 1) b by rw [mid_next i k b hik, ← HB'.out, if_neg hgt])
                have hgt' : ¬ (b'.2 : Int) < (k : Int) - (i : Int) + 1 := by omega
                clear hgt
                go_wp2_with fail
                go_roundg (8 - (k + 1))
                case measure => have := HM2.out; omega
                case rel => exact ⟨rfl, k + 1, b', by omega, by omega, rfl, by first | rfl | go_num, rfl, rfl, HB2.out, HZ2.out⟩
            · have HS2 := Lib.hid (HS.out (by rw [HN.out]; exact fun e => h0 (Option.some.inj e)))
              have h0' : ((n : Int) == 0) = false := by simp; omega
              go_wp2_with fail
              go_roundg (8 - (i + 1))
              case measure => have := HM.out; omega
              case rel => exact ⟨rfl, i + 1, b', by omega, rfl, by first | rfl | go_num, rfl, rfl, c1, c2, HS2.out⟩
          · have HS2 := Lib.hid (HS.out (by rw [List.getElem?_eq_none (by rw [HX.out]; omega)]; exact fun e => by cases e))
            go_wp2_with fail
            go_roundg (8 - (i + 1))
            case measure => have := HM.out; omega
            case rel => exact ⟨rfl, i + 1, b', by omega, rfl, by first | rfl | go_num, rfl, rfl, c1, c2, HS2.out⟩
      · obtain rfl : i = 8 := by omega
        have HE := Lib.hid (show (x, y) = b from HLL.out)
        go_wp2_with fail
        rw [Exit.noGoto_ret]
        go_ret2
        have he := HE.out
        subst he
        exact ⟨rfl, HB.out⟩
end Go.Proofs.YtodpjdeffhbkpaaGreatDoor
