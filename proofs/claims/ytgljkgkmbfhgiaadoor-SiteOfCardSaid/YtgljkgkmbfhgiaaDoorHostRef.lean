/- The reference's text of an address of eight pieces. -/
import Derived.Test.YtgljkgkmbfhgiaaDoorHostSix
import Derived.Deep.RegionHeld3
import Derived.Deep.RegionWith
import Derived.RegionTactic
import Derived.ChangeAlike
import Derived.BigRegion
set_option linter.unusedVariables false
set_option linter.unusedSimpArgs false
set_option maxRecDepth 100000
namespace Go.Proofs.YtgljkgkmbfhgiaaDoor
open Go.RowKit Four Six

def figs16 : ByteArray := ⟨#[48, 49, 50, 51, 52, 53, 54, 55, 56, 57, 97, 98, 99, 100, 101, 102]⟩
theorem figs_cut : ∀ n, n < 16 → figs16.extract n (n + 1) = mkB [hexd n] := by decide +kernel
theorem figs_slice (n : Nat) (h : n < 16) (w : World) : (Instr.slice 9 (.string ⟨#[48, 49, 50, 51, 52, 53, 54, 55, 56, 57, 97, 98, 99, 100, 101, 102]⟩) (some (.int .u16 (n : Int))) (some (.int .u16 ((n : Int) + 1))) none).run Tryd.prog w = .ok (.string (mkB [hexd n])) w := by
  have hs : figs16.size = 16 := rfl
  have := run_slice_string (P := Tryd.prog) w 9 figs16 .u16 .u16 (n : Int) ((n : Int) + 1) Tryd.underlying9 (by omega) (by omega) (by rw [hs]; omega)
  have e1 : (n : Int).toNat = n := by omega
  have e2 : ((n : Int) + 1).toNat = n + 1 := by omega
  rw [e1, e2, figs_cut n h] at this
  exact this
set_option maxHeartbeats 4000000 in
theorem hex_small (n : Nat) (h : n < 16) (w : World) : Calls Tryd.prog 70 #[.int .u16 n] w fun e w' => e = .returned (.string (mkB (hexL n))) ∧ Below w.heap.size w w' := by
  rw [hexL_lt h]
  have h' : (n : Int) < 16 := by omega
  have hw : IntKind.u16.wrap ((n : Int) + 1) = (n : Int) + 1 := by rw [IntKind.wrap_u16]; omega
  have hs := figs_slice n h
  go_enter Tryd.func70, Tryd.ntmps70
  go_wp2_with fail
  go_ret
  exact ⟨rfl, Below.refl _ _⟩
theorem hex_calls (n : Nat) (hn : n < 65536) (w : World) : Calls Tryd.prog 70 #[.int .u16 n] w fun e w' => e = .returned (.string (mkB (hexL n))) ∧ Below w.heap.size w w' := by
  induction n using Nat.strongRecOn generalizing w with
  | _ n ih =>
    by_cases h : n < 16
    · exact hex_small n h w
    · have HI := Lib.hid (fun W => ih (n / 16) (by omega) (by omega) W)
      have hl := (hex_len4 (n := n / 16) (by omega)).2
      have h' : ¬ (n : Int) < 16 := by omega
      have hr : n % 16 < 16 := Nat.mod_lt _ (by decide)
      have hs := figs_slice (n % 16) hr
      have e1 : (n : Int) / 16 = ((n / 16 : Nat) : Int) := by omega
      have e2 : (n : Int).tmod 16 = ((n % 16 : Nat) : Int) := by rw [Int.tmod_eq_emod_of_nonneg (by omega)]; omega
      have e3 : IntKind.u16.wrap ((n / 16 : Nat) : Int) = ((n / 16 : Nat) : Int) := by rw [IntKind.wrap_u16]; omega
      have hw : IntKind.u16.wrap (((n % 16 : Nat) : Int) + 1) = ((n % 16 : Nat) : Int) + 1 := by rw [IntKind.wrap_u16]; omega
      obtain ⟨D, hD⟩ : ∃ D, D = mkB (hexL (n / 16)) := ⟨_, rfl⟩
      obtain ⟨E, hE⟩ : ∃ E, E = mkB [hexd (n % 16)] := ⟨_, rfl⟩
      have HO := Lib.hid (show mkB (hexL n) = D ++ E by
        rw [hexL_ge h, hD, hE]
        apply ByteArray.ext
        simp [mkB, ByteArray.data_append])
      have z1 : D.size ≤ 4 := by rw [hD, mkB_size]; exact hl
      have z2 : E.size = 1 := by rw [hE]; rfl
      have hadd : ∀ w, (Op.stringOp .add D E).run Tryd.prog w = .ok (.string (D ++ E)) w := fun w => run_string_add_sum w _ _ (by omega)
      rw [← hD] at HI
      rw [← hE] at hs
      rw [HO.out]
      clear ih hl hD hE z1 z2 HO
      generalize n % 16 = r at hs e2 hw hr
      generalize n / 16 = m at HI e1 e3
      have HB0 := Lib.hid (show Below w.heap.size w w.drew from (Below.refl _ _).drew)
      clear hn h
      go_enter Tryd.func70, Tryd.ntmps70
      go_wp2_with fail
      go_region_with (first
        | (go_at_call 70; (with_reducible refine (HI.out w.drew).mono ?_); rintro e w3 ⟨rfl, hb⟩; have HC1 := Lib.hid (belowOn HB0.out HB0.out.size hb); clear hb))
      all_goals (
        go_wp2_with fail
        go_ret
        exact ⟨rfl, HC1.out⟩)
/-- The reference's run: how many noughts there are from a place on. -/
theorem run_calls (a : List Nat) (h8 : a.length = 8) (i : Nat) (hi : i ≤ 8) (w : World) : Calls Tryd.prog 69 #[.agg (cellsA a).toArray, .int .i64 i] w fun e w' => e = .returned (.int .i64 (Six.runN (a.drop i))) ∧ Below w.heap.size w w' := by
  obtain ⟨W, hW⟩ : ∃ W, W = w.alloc (.cells (cellsA a).toArray 24) := ⟨_, rfl⟩
  have HB := Lib.hid (show Below w.heap.size w W by rw [hW]; exact (Below.refl _ _).alloc (Nat.le_refl _) _)
  have HC := Lib.hid (show ∀ (k n : Nat), a[k]? = some n → W.cell? ⟨w.heap.size, k, none⟩ = some (.int .u16 n) by
    intro k n hn
    rw [hW, (Blk.new w _ _).cell]
    simp [cellsA, hn])
  obtain ⟨r, hr⟩ : ∃ r, r = Six.runN (a.drop i) := ⟨_, rfl⟩
  rw [← hr]
  have HR := Lib.hid hr
  have HX := Lib.hid h8
  obtain ⟨x0, x1, x2, x3, x4, x5, x6, x7, hxs⟩ := eight_of h8
  have hcc : (cellsA a).toArray = #[.int .u16 x0, .int .u16 x1, .int .u16 x2, .int .u16 x3, .int .u16 x4, .int .u16 x5, .int .u16 x6, .int .u16 x7] := by rw [hxs]; exact cells_eight _ _ _ _ _ _ _ _
  have HW2 := Lib.hid (show w.alloc (.cells #[.int .u16 x0, .int .u16 x1, .int .u16 x2, .int .u16 x3, .int .u16 x4, .int .u16 x5, .int .u16 x6, .int .u16 x7] 24) = W by rw [hW, hcc])
  rw [hcc]
  clear hW h8 hxs hcc hr
  go_enter Tryd.func69, Tryd.ntmps69
  go_wp2_with fail
  rw [HW2.out]
  go_loopg [5] (8 - i) (fun m v5 w' => W = w' ∧ Hid (∃ (k : Nat), i + k ≤ 8 ∧ m = 8 - i - k ∧ v5 = .int .i64 k ∧ ∀ j, i ≤ j → j < i + k → a[j]? = some 0))
  case atStart => exact ⟨rfl, 0, by omega, by omega, rfl, fun j h1 h2 => by omega⟩
  case round =>
    obtain ⟨rfl, hrel⟩ := hrel
    obtain ⟨k, hk, hm, rfl, hz⟩ := hrel.out
    have HM := Lib.hid hm
    have HZ := Lib.hid hz
    clear hrel hm hz
    by_cases hk8 : i + k < 8
    · obtain ⟨n, hn⟩ : ∃ n, a[i + k]? = some n := ⟨a[i + k]'(by rw [HX.out]; exact hk8), List.getElem?_eq_getElem _⟩
      have hcell := HC.out (i + k) n hn
      have HN := Lib.hid hn
      have hk8' : (i : Int) + (k : Int) < 8 := by omega
      clear hn
      by_cases h0 : n = 0
      · subst h0
        have HZ2 := Lib.hid (show ∀ j, i ≤ j → j < i + (k + 1) → a[j]? = some 0 from fun j h1 h2 => by
          by_cases e : j = i + k
          · rw [e]; exact HN.out
          · exact HZ.out j h1 (by omega))
        go_wp2_with fail
        go_roundg (8 - i - (k + 1))
        case measure => have := HM.out; omega
        case rel => exact ⟨rfl, k + 1, by omega, rfl, by first | rfl | go_num, HZ2.out⟩
      · have h0' : ((n : Int) == 0) = false := by simp; omega
        have HE := Lib.hid (show r = k by rw [HR.out, run_at a i (i + k) (by omega) HZ.out (by rw [HN.out]; exact fun e => h0 (Option.some.inj e))]; omega)
        go_wp2_with fail
        go_ret
        rw [HE.out]
        exact ⟨rfl, HB.out⟩
    · have hk8' : ¬ (i : Int) + (k : Int) < 8 := by omega
      have HE := Lib.hid (show r = k by rw [HR.out, run_at a i (i + k) (by omega) HZ.out (by rw [List.getElem?_eq_none (by rw [HX.out]; omega)]; exact fun e => by cases e)]; omega)
      go_wp2_with fail
      go_ret
      rw [HE.out]
      exact ⟨rfl, HB.out⟩
end Go.Proofs.YtgljkgkmbfhgiaaDoor
namespace Go.Proofs.YtgljkgkmbfhgiaaDoor.Six
open Go.Lib Four

/-- The place of the first longest run, from place i on, b the best before. -/
def bestR (a : List Nat) : Nat → Nat → Nat → Nat
  | 0, i, b => b
  | d + 1, i, b => bestR a d (i + 1) (if runN (a.drop b) < runN (a.drop i) then i else b)
/-- The two looks agree: the same place, where a run is of two and more. -/
theorem best_long (a : List Nat) : ∀ (d i b : Nat) (c : Nat × Nat), ((c = (0, 1) ∧ runN (a.drop b) ≤ 1) ∨ (c = (b, runN (a.drop b)) ∧ 2 ≤ runN (a.drop b))) →
    ((longN a d i c = (0, 1) ∧ runN (a.drop (bestR a d i b)) ≤ 1) ∨ (longN a d i c = (bestR a d i b, runN (a.drop (bestR a d i b))) ∧ 2 ≤ runN (a.drop (bestR a d i b))))
  | 0, i, b, c, h => h
  | d + 1, i, b, c, h => by
    unfold longN bestR
    refine best_long a d (i + 1) _ _ ?_
    rcases h with ⟨rfl, h⟩ | ⟨rfl, h⟩
    · by_cases h1 : 1 < runN (a.drop i)
      · rw [if_pos (by exact h1), if_pos (by omega)]
        exact .inr ⟨rfl, by omega⟩
      · rw [if_neg (by exact h1)]
        refine .inl ⟨rfl, ?_⟩
        split
        · omega
        · exact h
    · by_cases h1 : runN (a.drop b) < runN (a.drop i)
      · rw [if_pos (by exact h1), if_pos h1]
        exact .inr ⟨rfl, by omega⟩
      · rw [if_neg (by exact h1), if_neg h1]
        exact .inr ⟨rfl, h⟩
theorem best_is (a : List Nat) : ((longest a).2 < 2 ∧ runN (a.drop (bestR a 8 0 0)) < 2) ∨ (longest a = (bestR a 8 0 0, runN (a.drop (bestR a 8 0 0))) ∧ 2 ≤ runN (a.drop (bestR a 8 0 0))) := by
  have h0 : longest a = longN a 8 0 (0, 1) := rfl
  have hs : longN a 8 0 (0, 1) = longN a 7 1 (if 1 < runN a then (0, runN a) else (0, 1)) := rfl
  have hb : bestR a 8 0 0 = bestR a 7 1 0 := by
    show bestR a 7 1 (if runN (a.drop 0) < runN (a.drop 0) then 0 else 0) = _
    rw [if_neg (by omega)]
  rw [h0, hs, hb]
  have := best_long a 7 1 0 (if 1 < runN a then (0, runN a) else (0, 1)) (by
    by_cases h : 1 < runN a
    · rw [if_pos h]; exact .inr ⟨by simp, by simp; omega⟩
    · rw [if_neg h]; exact .inl ⟨rfl, by simp; omega⟩)
  rcases this with ⟨e, h⟩ | ⟨e, h⟩
  · exact .inl ⟨by rw [e]; decide, by omega⟩
  · exact .inr ⟨e, h⟩

/-! ### The text, put together piece by piece -/
/-- Pieces from place i on, a colon ahead of each but the first at all (lead: whether this one has one). -/
def tailT : Bool → List Nat → List UInt8
  | _, [] => []
  | lead, n :: l => (if lead = true then [58] else []) ++ hexL n ++ tailT true l
theorem tail_joined : ∀ (n : Nat) (l : List Nat), tailT false (n :: l) = joined (n :: l)
  | n, [] => by simp [tailT, joined, join]
  | n, m :: l => by
    have ih := tail_joined m l
    have e : tailT true (m :: l) = 58 :: tailT false (m :: l) := by simp [tailT]
    have j : joined (n :: m :: l) = hexL n ++ [58] ++ joined (m :: l) := by simp [joined, join]
    rw [j, ← ih, tailT, e]
    simp
theorem tail_is (l : List Nat) : tailT false l = joined l := by
  cases l with
  | nil => simp [tailT, joined, join]
  | cons n l => exact tail_joined n l
theorem tail_append : ∀ (b : Bool) (l : List Nat) (n : Nat), tailT b (l ++ [n]) = tailT b l ++ (if b = true ∨ l ≠ [] then [58] else []) ++ hexL n
  | b, [], n => by cases b <;> simp [tailT]
  | b, m :: l, n => by
    have ih := tail_append true l n
    rw [List.cons_append, tailT, ih, tailT]
    simp

/-- What stands after the places below k: b and n the best run's place and length. -/
def PT (a : List Nat) (b n k : Nat) (out : List UInt8) : Prop :=
  (n < 2 ∧ out = tailT false (a.take k)) ∨ (2 ≤ n ∧ ((k ≤ b ∧ out = tailT false (a.take k)) ∨ (b + n ≤ k ∧ out = tailT false (a.take b) ++ [58, 58] ++ tailT false ((a.drop (b + n)).take (k - (b + n))))))
theorem take_step {a : List Nat} {k m : Nat} (hm : a[k]? = some m) : tailT false (a.take (k + 1)) = tailT false (a.take k) ++ (if 0 < k then [58] else []) ++ hexL m := by
  have hk := (List.getElem?_eq_some_iff.1 hm).1
  rw [List.take_add_one, hm]
  show tailT false (a.take k ++ [m]) = _
  rw [tail_append]
  congr 2
  by_cases h0 : k = 0
  · subst h0; simp
  · rw [if_pos, if_pos (by omega)]
    right
    intro e
    have := congrArg List.length e
    rw [List.length_take, List.length_nil] at this
    omega
theorem pt_step {a : List Nat} {b n k m : Nat} {out : List UInt8} (h : PT a b n k out) (hm : a[k]? = some m) (hs : ¬ (2 ≤ n ∧ k = b)) : PT a b n (k + 1) (out ++ (if 0 < k ∧ (n < 2 ∨ k ≠ b + n) then [58] else []) ++ hexL m) := by
  rcases h with ⟨h1, rfl⟩ | ⟨h1, ⟨h2, rfl⟩ | ⟨h2, rfl⟩⟩
  · refine .inl ⟨h1, ?_⟩
    rw [take_step hm]
    congr 2
    by_cases h0 : 0 < k
    · rw [if_pos ⟨h0, .inl h1⟩, if_pos h0]
    · rw [if_neg (fun h => h0 h.1), if_neg h0]
  · refine .inr ⟨h1, .inl ⟨by omega, ?_⟩⟩
    rw [take_step hm]
    congr 2
    by_cases h0 : 0 < k
    · rw [if_pos ⟨h0, .inr (by omega)⟩, if_pos h0]
    · rw [if_neg (fun h => h0 h.1), if_neg h0]
  · refine .inr ⟨h1, .inr ⟨by omega, ?_⟩⟩
    have hd : (a.drop (b + n))[k - (b + n)]? = some m := by rw [List.getElem?_drop, show b + n + (k - (b + n)) = k by omega, hm]
    rw [show k + 1 - (b + n) = (k - (b + n)) + 1 by omega, take_step hd]
    by_cases h0 : k = b + n
    · rw [if_neg (by omega), if_neg (by omega)]
      simp
    · rw [if_pos (by omega), if_pos (by omega)]
      simp
theorem pt_skip {a : List Nat} {b n : Nat} {out : List UInt8} (h : PT a b n b out) (h1 : 2 ≤ n) : PT a b n (b + n) (out ++ [58, 58]) := by
  rcases h with ⟨h2, _⟩ | ⟨_, ⟨_, rfl⟩ | ⟨h2, rfl⟩⟩
  · omega
  · exact .inr ⟨h1, .inr ⟨by omega, by simp [tailT]⟩⟩
  · omega
theorem pt_end {a : List Nat} {b n : Nat} {out : List UInt8} (h8 : a.length = 8) (hbn : b + n ≤ 8) (hb : b ≤ 7) (h : PT a b n 8 out) (hl : ((longest a).2 < 2 ∧ n < 2) ∨ (longest a = (b, n) ∧ 2 ≤ n)) : out = text6 a := by
  unfold text6
  rcases hl with ⟨e, hn⟩ | ⟨e, hn⟩
  · rw [if_pos e]
    rcases h with ⟨_, rfl⟩ | ⟨h1, _⟩
    · rw [List.take_of_length_le (by omega), tail_is]
    · omega
  · rw [e, if_neg (by simp only; omega)]
    rcases h with ⟨h1, _⟩ | ⟨_, ⟨h2, _⟩ | ⟨h2, rfl⟩⟩
    · omega
    · omega
    · rw [tail_is, tail_is, List.take_of_length_le (l := a.drop (b + n)) (by rw [List.length_drop, h8]; omega)]
theorem pt_len {a : List Nat} {b n k : Nat} {out : List UInt8} (h : PT a b n k out) (ha : ∀ m ∈ a, m < 65536) (h8 : a.length = 8) : out.length ≤ 100 := by
  have hj : ∀ l : List Nat, (∀ m ∈ l, m < 65536) → l.length ≤ 8 → (tailT false l).length ≤ 41 := fun l h1 h2 => by
    rw [tail_is]
    have := (joined_len l h1).1
    omega
  rcases h with ⟨_, rfl⟩ | ⟨_, ⟨_, rfl⟩ | ⟨_, rfl⟩⟩
  · have := hj (a.take k) (fun m hm => ha m (List.mem_of_mem_take hm)) (by rw [List.length_take]; omega)
    omega
  · have := hj (a.take k) (fun m hm => ha m (List.mem_of_mem_take hm)) (by rw [List.length_take]; omega)
    omega
  · have h1 := hj (a.take b) (fun m hm => ha m (List.mem_of_mem_take hm)) (by rw [List.length_take]; omega)
    have h2 := hj ((a.drop (b + n)).take (k - (b + n))) (fun m hm => ha m (List.mem_of_mem_drop (List.mem_of_mem_take hm))) (by rw [List.length_take, List.length_drop]; omega)
    simp
    omega
end Go.Proofs.YtgljkgkmbfhgiaaDoor.Six
set_option maxRecDepth 100000
namespace Go.Proofs.YtgljkgkmbfhgiaaDoor
open Go.RowKit Four Six

set_option maxHeartbeats 8000000 in
theorem reftext_calls (a : List Nat) (h8 : a.length = 8) (ha : ∀ n ∈ a, n < 65536) (w : World) : Calls Tryd.prog 53 #[.agg (cellsA a).toArray] w fun e w' => e = .returned (.string (mkB (text6 a))) ∧ Below w.heap.size w w' := by
  obtain ⟨W, hW⟩ : ∃ W, W = w.alloc (.cells (cellsA a).toArray 24) := ⟨_, rfl⟩
  have HB := Lib.hid (show Below w.heap.size w W by rw [hW]; exact (Below.refl _ _).alloc (Nat.le_refl _) _)
  have hK : Blk W w.heap.size 24 (cellsA a).toArray := by rw [hW]; exact Blk.new w _ _
  have hRun := fun (i : Nat) (hi : i ≤ 8) (W : World) => run_calls a h8 i hi W
  have HX := Lib.hid h8
  obtain ⟨x0, x1, x2, x3, x4, x5, x6, x7, hxs⟩ := eight_of h8
  have hcc : (cellsA a).toArray = #[.int .u16 x0, .int .u16 x1, .int .u16 x2, .int .u16 x3, .int .u16 x4, .int .u16 x5, .int .u16 x6, .int .u16 x7] := by rw [hxs]; exact cells_eight _ _ _ _ _ _ _ _
  have HW2 := Lib.hid (show w.alloc (.cells #[.int .u16 x0, .int .u16 x1, .int .u16 x2, .int .u16 x3, .int .u16 x4, .int .u16 x5, .int .u16 x6, .int .u16 x7] 24) = W by rw [hW, hcc])
  rw [hcc] at hRun hK ⊢
  have HRun := Lib.hid hRun
  have HK := Lib.hid hK
  have HXS := Lib.hid hxs
  clear hW h8 hxs hcc hRun hK
  go_enter Tryd.func53, Tryd.ntmps53
  go_wp2_with fail
  rw [HW2.out]
  go_loopg [4, 3] 8 (fun m v4 v3 w' => Hid (∃ (i b : Nat), i ≤ 8 ∧ b ≤ 7 ∧ m = 8 - i ∧ v4 = .int .i64 i ∧ v3 = .int .i64 b ∧ bestR a 8 0 0 = bestR a (8 - i) i b ∧ Below W.heap.size W w'))
  case atStart => exact ⟨0, 0, by omega, by omega, rfl, rfl, rfl, rfl, Below.refl _ _⟩
  case round =>
    obtain ⟨i, b, hi, hb7, hm, rfl, rfl, hbest, hbw⟩ := hrel.out
    have HM := Lib.hid hm
    have HBE := Lib.hid hbest
    have HBW := Lib.hid hbw
    have HKr := Lib.hid (HK.out.keep hbw)
    clear hrel hm hbest hbw
    by_cases hi8 : i < 8
    · have HC0 := Lib.hid (show wr.cell? ⟨w.heap.size, 0, none⟩ = some (.int .u16 x0) ∧ wr.cell? ⟨w.heap.size, 1, none⟩ = some (.int .u16 x1) ∧ wr.cell? ⟨w.heap.size, 2, none⟩ = some (.int .u16 x2) ∧ wr.cell? ⟨w.heap.size, 3, none⟩ = some (.int .u16 x3) ∧ wr.cell? ⟨w.heap.size, 4, none⟩ = some (.int .u16 x4) ∧ wr.cell? ⟨w.heap.size, 5, none⟩ = some (.int .u16 x5) ∧ wr.cell? ⟨w.heap.size, 6, none⟩ = some (.int .u16 x6) ∧ wr.cell? ⟨w.heap.size, 7, none⟩ = some (.int .u16 x7) from ⟨HKr.out.cell 0, HKr.out.cell 1, HKr.out.cell 2, HKr.out.cell 3, HKr.out.cell 4, HKr.out.cell 5, HKr.out.cell 6, HKr.out.cell 7⟩)
      have HB0 := Lib.hid (show Below wr.heap.size wr wr.drew from (Below.refl _ _).drew)
      have hi8' : decide ((i : Int) < 8) = true := by simp; omega
      by_cases hlt : Six.runN (a.drop b) < Six.runN (a.drop i)
      · have hlt' : (Six.runN (a.drop b) : Int) < (Six.runN (a.drop i) : Int) := by omega
        have HN := Lib.hid (show bestR a 8 0 0 = bestR a (8 - (i + 1)) (i + 1) i by
          rw [HBE.out, show 8 - i = (8 - (i + 1)) + 1 by omega, bestR, if_pos hlt])
        have hri := HRun.out i (by omega)
        have hrb := HRun.out b (by omega)
        generalize Six.runN (a.drop i) = ri at hri hlt'
        generalize Six.runN (a.drop b) = rb at hrb hlt'
        have HRI := Lib.hid hri
        have HRB := Lib.hid hrb
        clear hri hrb hlt
        go_wp2_with fail
        go_region_held3 (fun w' => w'.cell? ⟨w.heap.size, 0, none⟩ = some (.int .u16 x0) ∧ w'.cell? ⟨w.heap.size, 1, none⟩ = some (.int .u16 x1) ∧ w'.cell? ⟨w.heap.size, 2, none⟩ = some (.int .u16 x2) ∧ w'.cell? ⟨w.heap.size, 3, none⟩ = some (.int .u16 x3) ∧ w'.cell? ⟨w.heap.size, 4, none⟩ = some (.int .u16 x4) ∧ w'.cell? ⟨w.heap.size, 5, none⟩ = some (.int .u16 x5) ∧ w'.cell? ⟨w.heap.size, 6, none⟩ = some (.int .u16 x6) ∧ w'.cell? ⟨w.heap.size, 7, none⟩ = some (.int .u16 x7))
          (first | exact HC0.out | exact HC1.out | exact HC2.out | go_keep)
          (first
            | (go_at_call 69; (with_reducible refine (HRI.out wr.drew).mono ?_); rintro e w3 ⟨rfl, hb⟩; have H1 := Lib.hid (belowOn HB0.out HB0.out.size hb); have HC1 := Lib.hid (show w3.cell? ⟨w.heap.size, 0, none⟩ = some (.int .u16 x0) ∧ w3.cell? ⟨w.heap.size, 1, none⟩ = some (.int .u16 x1) ∧ w3.cell? ⟨w.heap.size, 2, none⟩ = some (.int .u16 x2) ∧ w3.cell? ⟨w.heap.size, 3, none⟩ = some (.int .u16 x3) ∧ w3.cell? ⟨w.heap.size, 4, none⟩ = some (.int .u16 x4) ∧ w3.cell? ⟨w.heap.size, 5, none⟩ = some (.int .u16 x5) ∧ w3.cell? ⟨w.heap.size, 6, none⟩ = some (.int .u16 x6) ∧ w3.cell? ⟨w.heap.size, 7, none⟩ = some (.int .u16 x7) from ⟨(HKr.out.drew.keep hb).cell 0, (HKr.out.drew.keep hb).cell 1, (HKr.out.drew.keep hb).cell 2, (HKr.out.drew.keep hb).cell 3, (HKr.out.drew.keep hb).cell 4, (HKr.out.drew.keep hb).cell 5, (HKr.out.drew.keep hb).cell 6, (HKr.out.drew.keep hb).cell 7⟩); clear hb)
            | (go_at_call 69; (with_reducible refine (HRB.out w3).mono ?_); rintro e w4 ⟨rfl, hb⟩; have H2 := Lib.hid (belowOn H1.out H1.out.size hb); have HC2 := Lib.hid (show w4.cell? ⟨w.heap.size, 0, none⟩ = some (.int .u16 x0) ∧ w4.cell? ⟨w.heap.size, 1, none⟩ = some (.int .u16 x1) ∧ w4.cell? ⟨w.heap.size, 2, none⟩ = some (.int .u16 x2) ∧ w4.cell? ⟨w.heap.size, 3, none⟩ = some (.int .u16 x3) ∧ w4.cell? ⟨w.heap.size, 4, none⟩ = some (.int .u16 x4) ∧ w4.cell? ⟨w.heap.size, 5, none⟩ = some (.int .u16 x5) ∧ w4.cell? ⟨w.heap.size, 6, none⟩ = some (.int .u16 x6) ∧ w4.cell? ⟨w.heap.size, 7, none⟩ = some (.int .u16 x7) from ⟨((HKr.out.keep H1.out).keep hb).cell 0, ((HKr.out.keep H1.out).keep hb).cell 1, ((HKr.out.keep H1.out).keep hb).cell 2, ((HKr.out.keep H1.out).keep hb).cell 3, ((HKr.out.keep H1.out).keep hb).cell 4, ((HKr.out.keep H1.out).keep hb).cell 5, ((HKr.out.keep H1.out).keep hb).cell 6, ((HKr.out.keep H1.out).keep hb).cell 7⟩); clear hb))
        go_wp2_with fail
        go_roundg (8 - (i + 1))
        case measure => have := HM.out; omega
        case rel => exact ⟨i + 1, i, by omega, by omega, rfl, by first | rfl | go_num, rfl, HN.out, belowOn HBW.out HBW.out.size H2.out⟩
      · have hlt' : ¬ (Six.runN (a.drop b) : Int) < (Six.runN (a.drop i) : Int) := by omega
        have HN := Lib.hid (show bestR a 8 0 0 = bestR a (8 - (i + 1)) (i + 1) b by
          rw [HBE.out, show 8 - i = (8 - (i + 1)) + 1 by omega, bestR, if_neg hlt])
        have hri := HRun.out i (by omega)
        have hrb := HRun.out b (by omega)
        generalize Six.runN (a.drop i) = ri at hri hlt'
        generalize Six.runN (a.drop b) = rb at hrb hlt'
        have HRI := Lib.hid hri
        have HRB := Lib.hid hrb
        clear hri hrb hlt
        go_wp2_with fail
        go_region_held3 (fun w' => w'.cell? ⟨w.heap.size, 0, none⟩ = some (.int .u16 x0) ∧ w'.cell? ⟨w.heap.size, 1, none⟩ = some (.int .u16 x1) ∧ w'.cell? ⟨w.heap.size, 2, none⟩ = some (.int .u16 x2) ∧ w'.cell? ⟨w.heap.size, 3, none⟩ = some (.int .u16 x3) ∧ w'.cell? ⟨w.heap.size, 4, none⟩ = some (.int .u16 x4) ∧ w'.cell? ⟨w.heap.size, 5, none⟩ = some (.int .u16 x5) ∧ w'.cell? ⟨w.heap.size, 6, none⟩ = some (.int .u16 x6) ∧ w'.cell? ⟨w.heap.size, 7, none⟩ = some (.int .u16 x7))
          (first | exact HC0.out | exact HC1.out | exact HC2.out | go_keep)
          (first
            | (go_at_call 69; (with_reducible refine (HRI.out wr.drew).mono ?_); rintro e w3 ⟨rfl, hb⟩; have H1 := Lib.hid (belowOn HB0.out HB0.out.size hb); have HC1 := Lib.hid (show w3.cell? ⟨w.heap.size, 0, none⟩ = some (.int .u16 x0) ∧ w3.cell? ⟨w.heap.size, 1, none⟩ = some (.int .u16 x1) ∧ w3.cell? ⟨w.heap.size, 2, none⟩ = some (.int .u16 x2) ∧ w3.cell? ⟨w.heap.size, 3, none⟩ = some (.int .u16 x3) ∧ w3.cell? ⟨w.heap.size, 4, none⟩ = some (.int .u16 x4) ∧ w3.cell? ⟨w.heap.size, 5, none⟩ = some (.int .u16 x5) ∧ w3.cell? ⟨w.heap.size, 6, none⟩ = some (.int .u16 x6) ∧ w3.cell? ⟨w.heap.size, 7, none⟩ = some (.int .u16 x7) from ⟨(HKr.out.drew.keep hb).cell 0, (HKr.out.drew.keep hb).cell 1, (HKr.out.drew.keep hb).cell 2, (HKr.out.drew.keep hb).cell 3, (HKr.out.drew.keep hb).cell 4, (HKr.out.drew.keep hb).cell 5, (HKr.out.drew.keep hb).cell 6, (HKr.out.drew.keep hb).cell 7⟩); clear hb)
            | (go_at_call 69; (with_reducible refine (HRB.out w3).mono ?_); rintro e w4 ⟨rfl, hb⟩; have H2 := Lib.hid (belowOn H1.out H1.out.size hb); have HC2 := Lib.hid (show w4.cell? ⟨w.heap.size, 0, none⟩ = some (.int .u16 x0) ∧ w4.cell? ⟨w.heap.size, 1, none⟩ = some (.int .u16 x1) ∧ w4.cell? ⟨w.heap.size, 2, none⟩ = some (.int .u16 x2) ∧ w4.cell? ⟨w.heap.size, 3, none⟩ = some (.int .u16 x3) ∧ w4.cell? ⟨w.heap.size, 4, none⟩ = some (.int .u16 x4) ∧ w4.cell? ⟨w.heap.size, 5, none⟩ = some (.int .u16 x5) ∧ w4.cell? ⟨w.heap.size, 6, none⟩ = some (.int .u16 x6) ∧ w4.cell? ⟨w.heap.size, 7, none⟩ = some (.int .u16 x7) from ⟨((HKr.out.keep H1.out).keep hb).cell 0, ((HKr.out.keep H1.out).keep hb).cell 1, ((HKr.out.keep H1.out).keep hb).cell 2, ((HKr.out.keep H1.out).keep hb).cell 3, ((HKr.out.keep H1.out).keep hb).cell 4, ((HKr.out.keep H1.out).keep hb).cell 5, ((HKr.out.keep H1.out).keep hb).cell 6, ((HKr.out.keep H1.out).keep hb).cell 7⟩); clear hb))
        go_wp2_with fail
        go_roundg (8 - (i + 1))
        case measure => have := HM.out; omega
        case rel => exact ⟨i + 1, b, by omega, by omega, rfl, by first | rfl | go_num, rfl, HN.out, belowOn HBW.out HBW.out.size H2.out⟩
    · obtain rfl : i = 8 := by omega
      have hbe : bestR a 8 0 0 = b := HBE.out
      have hbl := best_is a
      rw [hbe] at hbl
      have hrl := runN_le (a.drop b)
      rw [List.length_drop, HX.out] at hrl
      have hrb := HRun.out b (by omega)
      generalize hn : Six.runN (a.drop b) = n at hbl hrl hrb
      have HRB := Lib.hid (hrb wr)
      have HBL := Lib.hid hbl
      have hc0 : wr.cell? ⟨w.heap.size, 0, none⟩ = some (.int .u16 x0) := HKr.out.cell 0
      have hc1 : wr.cell? ⟨w.heap.size, 1, none⟩ = some (.int .u16 x1) := HKr.out.cell 1
      have hc2 : wr.cell? ⟨w.heap.size, 2, none⟩ = some (.int .u16 x2) := HKr.out.cell 2
      have hc3 : wr.cell? ⟨w.heap.size, 3, none⟩ = some (.int .u16 x3) := HKr.out.cell 3
      have hc4 : wr.cell? ⟨w.heap.size, 4, none⟩ = some (.int .u16 x4) := HKr.out.cell 4
      have hc5 : wr.cell? ⟨w.heap.size, 5, none⟩ = some (.int .u16 x5) := HKr.out.cell 5
      have hc6 : wr.cell? ⟨w.heap.size, 6, none⟩ = some (.int .u16 x6) := HKr.out.cell 6
      have hc7 : wr.cell? ⟨w.heap.size, 7, none⟩ = some (.int .u16 x7) := HKr.out.cell 7
      clear hrb hbl hn hbe HBE HRun
      go_wp2_with fail
      refine HRB.out.mono ?_
      rintro e w3 ⟨rfl, hb3⟩
      have HB3 := Lib.hid (belowOn HBW.out HBW.out.size hb3)
      clear hb3 HRB hc0 hc1 hc2 hc3 hc4 hc5 hc6 hc7
      go_wp2_with fail
      have HC := Lib.hid (show ∀ (k m : Nat) (W' : World), Below W.heap.size W W' → a[k]? = some m → W'.cell? ⟨w.heap.size, k, none⟩ = some (.int .u16 m) from fun k m W' hb hm => by
        rw [(HK.out.keep hb).cell]
        have h2 : (cellsA a).toArray[k]? = some (.int .u16 m) := by simp [cellsA, hm]
        rw [HXS.out] at h2
        rw [cells_eight] at h2
        exact h2)
      have HA := Lib.hid ha
      clear ha
      go_loopg [7, 6] 8 (fun m v7 v6 w' => Hid (∃ (k : Nat) (out : List UInt8), k ≤ 8 ∧ m = 8 - k ∧ v7 = .int .i64 k ∧ v6 = .string (mkB out) ∧ PT a b n k out ∧ Below W.heap.size W w'))
      case atStart => exact ⟨0, [], by omega, by omega, rfl, rfl, by
        by_cases h : n < 2
        · exact .inl ⟨h, rfl⟩
        · exact .inr ⟨by omega, .inl ⟨by omega, rfl⟩⟩, HB3.out⟩
      case round =>
        obtain ⟨k, out, hk, hm, rfl, rfl, hPT, hbw⟩ := hrel.out
        have HM2 := Lib.hid hm
        have HPT := Lib.hid hPT
        have HBW2 := Lib.hid hbw
        have hol := pt_len hPT HA.out HX.out
        clear hrel hm hPT hbw
        by_cases hk8 : k < 8
        · skip
          obtain ⟨m, hm⟩ : ∃ m, a[k]? = some m := ⟨a[k]'(by rw [HX.out]; exact hk8), List.getElem?_eq_getElem _⟩
          have hm6 := HA.out m (List.mem_of_getElem? hm)
          have hcell := HC.out k m wr HBW2.out hm
          have HST := Lib.hid (fun hs => pt_step HPT.out hm hs)
          have HI := Lib.hid (hex_calls m hm6 wr)
          have zE : (mkB (hexL m)).size ≤ 4 := by rw [mkB_size]; exact (hex_len4 hm6).2
          obtain ⟨O, hO⟩ : ∃ O, O = mkB out := ⟨_, rfl⟩
          have zO : O.size ≤ 100 := by rw [hO, mkB_size]; exact hol
          obtain ⟨E, hE⟩ : ∃ E, E = mkB (hexL m) := ⟨_, rfl⟩
          rw [← hE] at HI zE
          rw [← hO]
          have HO := Lib.hid hO
          have HE := Lib.hid hE
          clear hm hO hE hol hm6
          by_cases hn2 : n < 2
          · by_cases hk0 : k = 0
            · skip
              have k0 : ¬ (0 : Int) < (k : Int) := by omega
              have n2 : ¬ (2 : Int) ≤ (n : Int) := by omega
              have n3 : (n : Int) < 2 := by omega
              have HN := Lib.hid (HST.out (by omega))
              rw [if_neg (by omega)] at HN
              have a2 : ∀ w, (Op.stringOp .add O E).run Tryd.prog w = .ok (.string (O ++ E)) w := fun w => run_string_add_sum w _ _ (by omega)
              have HF := Lib.hid (show O ++ E = mkB (out ++ [] ++ hexL m) by rw [HO.out, HE.out]; apply ByteArray.ext; simp [mkB, ByteArray.data_append])
              clear HST
              try clear hk0
              try clear hbn
              go_wp2_with fail
              refine HI.out.mono ?_
              rintro e w5 ⟨rfl, hb5⟩
              have HB5 := Lib.hid (belowOn HBW2.out HBW2.out.size hb5)
              clear hb5
              go_wp2_with fail
              rw [HF.out]
              go_roundg (8 - (k + 1))
              case measure => have := HM2.out; omega
              case rel => exact ⟨k + 1, _, by omega, rfl, by first | rfl | go_num, rfl, HN.out, HB5.out⟩
            · skip
              have k0 : (0 : Int) < (k : Int) := by omega
              have n2 : ¬ (2 : Int) ≤ (n : Int) := by omega
              have n3 : (n : Int) < 2 := by omega
              have HN := Lib.hid (HST.out (by omega))
              rw [if_pos (by omega)] at HN
              have a1 : ∀ w, (Op.stringOp .add O ⟨#[58]⟩).run Tryd.prog w = .ok (.string (O ++ (⟨#[58]⟩ : ByteArray))) w := fun w => run_string_add_sum w _ _ (by rw [show (⟨#[58]⟩ : ByteArray).size = 1 from rfl]; omega)
              obtain ⟨O1, hO1⟩ : ∃ O1, O1 = O ++ (⟨#[58]⟩ : ByteArray) := ⟨_, rfl⟩
              have z1 : O1.size ≤ 101 := by rw [hO1, ByteArray.size_append, show (⟨#[58]⟩ : ByteArray).size = 1 from rfl]; omega
              rw [← hO1] at a1
              have a2 : ∀ w, (Op.stringOp .add O1 E).run Tryd.prog w = .ok (.string (O1 ++ E)) w := fun w => run_string_add_sum w _ _ (by omega)
              have HF := Lib.hid (show O1 ++ E = mkB (out ++ [58] ++ hexL m) by rw [hO1, HO.out, HE.out]; apply ByteArray.ext; simp [mkB, ByteArray.data_append])
              clear hO1
              clear HST
              try clear hk0
              try clear hbn
              go_wp2_with fail
              refine HI.out.mono ?_
              rintro e w5 ⟨rfl, hb5⟩
              have HB5 := Lib.hid (belowOn HBW2.out HBW2.out.size hb5)
              clear hb5
              go_wp2_with fail
              rw [HF.out]
              go_roundg (8 - (k + 1))
              case measure => have := HM2.out; omega
              case rel => exact ⟨k + 1, _, by omega, rfl, by first | rfl | go_num, rfl, HN.out, HB5.out⟩
          · by_cases hkb : k = b
            · skip
              subst hkb
              have n2 : (2 : Int) ≤ (n : Int) := by omega
              have HN := Lib.hid (pt_skip HPT.out (by omega))
              have a1 : ∀ w, (Op.stringOp .add O ⟨#[58, 58]⟩).run Tryd.prog w = .ok (.string (O ++ (⟨#[58, 58]⟩ : ByteArray))) w := fun w => run_string_add_sum w _ _ (by rw [show (⟨#[58, 58]⟩ : ByteArray).size = 2 from rfl]; omega)
              have HF := Lib.hid (show O ++ (⟨#[58, 58]⟩ : ByteArray) = mkB (out ++ [58, 58]) by rw [HO.out]; apply ByteArray.ext; simp [mkB, ByteArray.data_append])
              clear HST HI
              go_wp2_with fail
              rw [HF.out]
              go_roundg (8 - (k + n))
              case measure => have := HM2.out; omega
              case rel => exact ⟨k + n, _, by omega, rfl, by first | rfl | go_num, rfl, HN.out, HBW2.out⟩
            · by_cases hk0 : k = 0
              · skip
                have k0 : ¬ (0 : Int) < (k : Int) := by omega
                have n2 : (2 : Int) ≤ (n : Int) := by omega
                have n3 : ¬ (n : Int) < 2 := by omega
                have kb : ((k : Int) == (b : Int)) = false := by simp; omega
                have HN := Lib.hid (HST.out (by omega))
                rw [if_neg (by omega)] at HN
                have a2 : ∀ w, (Op.stringOp .add O E).run Tryd.prog w = .ok (.string (O ++ E)) w := fun w => run_string_add_sum w _ _ (by omega)
                have HF := Lib.hid (show O ++ E = mkB (out ++ [] ++ hexL m) by rw [HO.out, HE.out]; apply ByteArray.ext; simp [mkB, ByteArray.data_append])
                clear HST
                try clear hk0
                try clear hbn
                go_wp2_with fail
                refine HI.out.mono ?_
                rintro e w5 ⟨rfl, hb5⟩
                have HB5 := Lib.hid (belowOn HBW2.out HBW2.out.size hb5)
                clear hb5
                go_wp2_with fail
                rw [HF.out]
                go_roundg (8 - (k + 1))
                case measure => have := HM2.out; omega
                case rel => exact ⟨k + 1, _, by omega, rfl, by first | rfl | go_num, rfl, HN.out, HB5.out⟩
              · by_cases hbn : k = b + n
                · skip
                  have k0 : (0 : Int) < (k : Int) := by omega
                  have n2 : (2 : Int) ≤ (n : Int) := by omega
                  have n3 : ¬ (n : Int) < 2 := by omega
                  have kb : ((k : Int) == (b : Int)) = false := by simp; omega
                  have kn : ((k : Int) == (b : Int) + (n : Int)) = true := by simp; omega
                  have HN := Lib.hid (HST.out (by omega))
                  rw [if_neg (by omega)] at HN
                  have a2 : ∀ w, (Op.stringOp .add O E).run Tryd.prog w = .ok (.string (O ++ E)) w := fun w => run_string_add_sum w _ _ (by omega)
                  have HF := Lib.hid (show O ++ E = mkB (out ++ [] ++ hexL m) by rw [HO.out, HE.out]; apply ByteArray.ext; simp [mkB, ByteArray.data_append])
                  clear HST
                  try clear hk0
                  try clear hbn
                  go_wp2_with fail
                  refine HI.out.mono ?_
                  rintro e w5 ⟨rfl, hb5⟩
                  have HB5 := Lib.hid (belowOn HBW2.out HBW2.out.size hb5)
                  clear hb5
                  go_wp2_with fail
                  rw [HF.out]
                  go_roundg (8 - (k + 1))
                  case measure => have := HM2.out; omega
                  case rel => exact ⟨k + 1, _, by omega, rfl, by first | rfl | go_num, rfl, HN.out, HB5.out⟩
                · skip
                  have k0 : (0 : Int) < (k : Int) := by omega
                  have n2 : (2 : Int) ≤ (n : Int) := by omega
                  have n3 : ¬ (n : Int) < 2 := by omega
                  have kb : ((k : Int) == (b : Int)) = false := by simp; omega
                  have kn : ((k : Int) == (b : Int) + (n : Int)) = false := by simp; omega
                  have HN := Lib.hid (HST.out (by omega))
                  rw [if_pos (by omega)] at HN
                  have a1 : ∀ w, (Op.stringOp .add O ⟨#[58]⟩).run Tryd.prog w = .ok (.string (O ++ (⟨#[58]⟩ : ByteArray))) w := fun w => run_string_add_sum w _ _ (by rw [show (⟨#[58]⟩ : ByteArray).size = 1 from rfl]; omega)
                  obtain ⟨O1, hO1⟩ : ∃ O1, O1 = O ++ (⟨#[58]⟩ : ByteArray) := ⟨_, rfl⟩
                  have z1 : O1.size ≤ 101 := by rw [hO1, ByteArray.size_append, show (⟨#[58]⟩ : ByteArray).size = 1 from rfl]; omega
                  rw [← hO1] at a1
                  have a2 : ∀ w, (Op.stringOp .add O1 E).run Tryd.prog w = .ok (.string (O1 ++ E)) w := fun w => run_string_add_sum w _ _ (by omega)
                  have HF := Lib.hid (show O1 ++ E = mkB (out ++ [58] ++ hexL m) by rw [hO1, HO.out, HE.out]; apply ByteArray.ext; simp [mkB, ByteArray.data_append])
                  clear hO1
                  clear HST
                  try clear hk0
                  try clear hbn
                  go_wp2_with fail
                  refine HI.out.mono ?_
                  rintro e w5 ⟨rfl, hb5⟩
                  have HB5 := Lib.hid (belowOn HBW2.out HBW2.out.size hb5)
                  clear hb5
                  go_wp2_with fail
                  rw [HF.out]
                  go_roundg (8 - (k + 1))
                  case measure => have := HM2.out; omega
                  case rel => exact ⟨k + 1, _, by omega, rfl, by first | rfl | go_num, rfl, HN.out, HB5.out⟩
        · obtain rfl : k = 8 := by omega
          have HE := Lib.hid (pt_end HX.out (by omega) hb7 HPT.out HBL.out)
          go_wp2_with fail
          go_ret
          rw [HE.out]
          exact ⟨rfl, belowOn HB.out HB.out.size HBW2.out⟩
end Go.Proofs.YtgljkgkmbfhgiaaDoor
