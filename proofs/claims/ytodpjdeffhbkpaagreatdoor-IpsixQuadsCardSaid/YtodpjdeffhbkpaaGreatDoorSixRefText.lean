/- The reference's text: a number by base 16, a run. -/
import Derived.Test.YtodpjdeffhbkpaaGreatDoorSixText
import Derived.Deep.RegionHeld3
import Derived.Deep.RegionWith
import Derived.RegionTactic
import Derived.ChangeAlike
import Derived.BigRegion
set_option linter.unusedVariables false
set_option linter.unusedSimpArgs false
set_option maxRecDepth 100000
namespace Go.Proofs.YtodpjdeffhbkpaaGreatDoor
open Go.RowKit Four Six

def figs16 : ByteArray := ⟨#[48, 49, 50, 51, 52, 53, 54, 55, 56, 57, 97, 98, 99, 100, 101, 102]⟩
theorem figs_cut : ∀ n, n < 16 → figs16.extract n (n + 1) = mkB [hexd n] := by decide +kernel
theorem figs_slice (n : Nat) (h : n < 16) (w : World) : (Instr.slice 9 (.string ⟨#[48, 49, 50, 51, 52, 53, 54, 55, 56, 57, 97, 98, 99, 100, 101, 102]⟩) (some (.int .u16 (n : Int))) (some (.int .u16 ((n : Int) + 1))) none).run Tryz.prog w = .ok (.string (mkB [hexd n])) w := by
  have hs : figs16.size = 16 := rfl
  have := run_slice_string (P := Tryz.prog) w 9 figs16 .u16 .u16 (n : Int) ((n : Int) + 1) Tryz.underlying9 (by omega) (by omega) (by rw [hs]; omega)
  have e1 : (n : Int).toNat = n := by omega
  have e2 : ((n : Int) + 1).toNat = n + 1 := by omega
  rw [e1, e2, figs_cut n h] at this
  exact this
set_option maxHeartbeats 4000000 in
theorem hex_small (n : Nat) (h : n < 16) (w : World) : Calls Tryz.prog 10 #[.int .u16 n] w fun e w' => e = .returned (.string (mkB (hexL n))) ∧ Below w.heap.size w w' := by
  rw [hexL_lt h]
  have h' : (n : Int) < 16 := by omega
  have hw : IntKind.u16.wrap ((n : Int) + 1) = (n : Int) + 1 := by rw [IntKind.wrap_u16]; omega
  have hs := figs_slice n h
  go_enter Tryz.func10, Tryz.ntmps10
  go_wp2_with fail
  go_ret
  exact ⟨rfl, Below.refl _ _⟩
theorem hex_calls (n : Nat) (hn : n < 65536) (w : World) : Calls Tryz.prog 10 #[.int .u16 n] w fun e w' => e = .returned (.string (mkB (hexL n))) ∧ Below w.heap.size w w' := by
  induction n using Nat.strongRecOn generalizing w with
  | _ n ih =>
    by_cases h : n < 16
    · exact hex_small n h w
    · have HI := Lib.hid (fun W => ih (n / 16) (by omega) (by omega) W)
      have hl := (hex_len4 (n := n / 16) (by omega)).2
      have h' : ¬ (n : Int) < 16 := by omega
      have hr : n % 16 < 16 := Nat.mod_lt _ (by decide)
      have hs := figs_slice (n % 16) hr
      have e1 : (n : Int) / 16 = ((n / 16 : Nat) : Int) := by omega
      have e2 : (n : Int).tmod 16 = ((n % 16 : Nat) : Int) := by rw [Int.tmod_eq_emod_of_nonneg (by omega)]; omega
      have e3 : IntKind.u16.wrap ((n / 16 : Nat) : Int) = ((n / 16 : Nat) : Int) := by rw [IntKind.wrap_u16]; omega
      have hw : IntKind.u16.wrap (((n % 16 : Nat) : Int) + 1) = ((n % 16 : Nat) : Int) + 1 := by rw [IntKind.wrap_u16]; omega
      obtain ⟨D, hD⟩ : ∃ D, D = mkB (hexL (n / 16)) := ⟨_, rfl⟩
      obtain ⟨E, hE⟩ : ∃ E, E = mkB [hexd (n % 16)] := ⟨_, rfl⟩
      have HO := Lib.hid (show mkB (hexL n) = D ++ E by
        rw [hexL_ge h, hD, hE]
        apply ByteArray.ext
        simp [mkB, ByteArray.data_append])
      have z1 : D.size ≤ 4 := by rw [hD, mkB_size]; exact hl
      have z2 : E.size = 1 := by rw [hE]; rfl
      have hadd : ∀ w, (Op.stringOp .add D E).run Tryz.prog w = .ok (.string (D ++ E)) w := fun w => run_string_add_sum w _ _ (by omega)
      rw [← hD] at HI
      rw [← hE] at hs
      rw [HO.out]
      clear ih hl hD hE z1 z2 HO
      generalize n % 16 = r at hs e2 hw hr
      generalize n / 16 = m at HI e1 e3
      have HB0 := Lib.hid (show Below w.heap.size w w.drew from (Below.refl _ _).drew)
      clear hn h
      go_enter Tryz.func10, Tryz.ntmps10
      go_wp2_with fail
      go_region_with (first
        | (go_at_call 10; (with_reducible refine (HI.out w.drew).mono ?_); rintro e w3 ⟨rfl, hb⟩; have HC1 := Lib.hid (belowOn HB0.out HB0.out.size hb); clear hb))
      all_goals (
        go_wp2_with fail
        go_ret
        exact ⟨rfl, HC1.out⟩)
/-- The reference's run: how many noughts there are from a place on. -/
theorem run_calls (a : List Nat) (h8 : a.length = 8) (i : Nat) (hi : i ≤ 8) (w : World) : Calls Tryz.prog 25 #[.agg (cellsA a).toArray, .int .i64 i] w fun e w' => e = .returned (.int .i64 (Six.runN (a.drop i))) ∧ Below w.heap.size w w' := by
  obtain ⟨W, hW⟩ : ∃ W, W = w.alloc (.cells (cellsA a).toArray 23) := ⟨_, rfl⟩
  have HB := Lib.hid (show Below w.heap.size w W by rw [hW]; exact (Below.refl _ _).alloc (Nat.le_refl _) _)
  have HC := Lib.hid (show ∀ (k n : Nat), a[k]? = some n → W.cell? ⟨w.heap.size, k, none⟩ = some (.int .u16 n) by
    intro k n hn
    rw [hW, (Blk.new w _ _).cell]
    simp [cellsA, hn])
  obtain ⟨r, hr⟩ : ∃ r, r = Six.runN (a.drop i) := ⟨_, rfl⟩
  rw [← hr]
  have HR := Lib.hid hr
  have HX := Lib.hid h8
  obtain ⟨x0, x1, x2, x3, x4, x5, x6, x7, hxs⟩ := eight_of h8
  have hcc : (cellsA a).toArray = #[.int .u16 x0, .int .u16 x1, .int .u16 x2, .int .u16 x3, .int .u16 x4, .int .u16 x5, .int .u16 x6, .int .u16 x7] := by rw [hxs]; exact cells_eight _ _ _ _ _ _ _ _
  have HW2 := Lib.hid (show w.alloc (.cells #[.int .u16 x0, .int .u16 x1, .int .u16 x2, .int .u16 x3, .int .u16 x4, .int .u16 x5, .int .u16 x6, .int .u16 x7] 23) = W by rw [hW, hcc])
  rw [hcc]
  clear hW h8 hxs hcc hr
  go_enter Tryz.func25, Tryz.ntmps25
  go_wp2_with fail
  rw [HW2.out]
  go_loopg [5] (8 - i) (fun m v5 w' => W = w' ∧ Hid (∃ (k : Nat), i + k ≤ 8 ∧ m = 8 - i - k ∧ v5 = .int .i64 k ∧ ∀ j, i ≤ j → j < i + k → a[j]? = some 0))
  case atStart => exact ⟨rfl, 0, by omega, by omega, rfl, fun j h1 h2 => by omega⟩
  case round =>
    obtain ⟨rfl, hrel⟩ := hrel
    obtain ⟨k, hk, hm, rfl, hz⟩ := hrel.out
    have HM := Lib.hid hm
    have HZ := Lib.hid hz
    clear hrel hm hz
    by_cases hk8 : i + k < 8
    · obtain ⟨n, hn⟩ : ∃ n, a[i + k]? = some n := ⟨a[i + k]'(by rw [HX.out]; exact hk8), List.getElem?_eq_getElem _⟩
      have hcell := HC.out (i + k) n hn
      have HN := Lib.hid hn
      have hk8' : (i : Int) + (k : Int) < 8 := by omega
      clear hn
      by_cases h0 : n = 0
      · subst h0
        have HZ2 := Lib.hid (show ∀ j, i ≤ j → j < i + (k + 1) → a[j]? = some 0 from fun j h1 h2 => by
          by_cases e : j = i + k
          · rw [e]; exact HN.out
          · exact HZ.out j h1 (by omega))
        go_wp2_with fail
        go_roundg (8 - i - (k + 1))
        case measure => have := HM.out; omega
        case rel => exact ⟨rfl, k + 1, by omega, rfl, by first | rfl | go_num, HZ2.out⟩
      · have h0' : ((n : Int) == 0) = false := by simp; omega
        have HE := Lib.hid (show r = k by rw [HR.out, run_at a i (i + k) (by omega) HZ.out (by rw [HN.out]; exact fun e => h0 (Option.some.inj e))]; omega)
        go_wp2_with fail
        go_ret
        rw [HE.out]
        exact ⟨rfl, HB.out⟩
    · have hk8' : ¬ (i : Int) + (k : Int) < 8 := by omega
      have HE := Lib.hid (show r = k by rw [HR.out, run_at a i (i + k) (by omega) HZ.out (by rw [List.getElem?_eq_none (by rw [HX.out]; omega)]; exact fun e => by cases e)]; omega)
      go_wp2_with fail
      go_ret
      rw [HE.out]
      exact ⟨rfl, HB.out⟩
end Go.Proofs.YtodpjdeffhbkpaaGreatDoor
