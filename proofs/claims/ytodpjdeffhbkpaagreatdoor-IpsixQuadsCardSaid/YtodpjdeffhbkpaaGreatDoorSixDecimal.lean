/- The law's decimal. (Turned from ipfour's.) -/
import Derived.Test.YtodpjdeffhbkpaaGreatDoorSixAwake
import Derived.Deep.RegionHeld3
import Derived.RegionTactic
set_option linter.unusedVariables false
set_option linter.unusedSimpArgs false
set_option maxRecDepth 100000
namespace Go.Proofs.YtodpjdeffhbkpaaGreatDoor
open Go.RowKit Four Six

theorem one_str (w : World) (x : Int) : (convert 42 9 (.slice (some ⟨w.heap.size, 0, none⟩) 1 1)).run Tryz.prog (w.alloc (.cells #[.int .u8 x] 5)) = .ok (.string (strOfNums [x])) (w.alloc (.cells #[.int .u8 x] 5)) := by
  have hb := Blk.new w 5 #[.int .u8 x]
  exact run_convert_bytes_arg (P := Tryz.prog) _ 42 5 Tryz.underlying42 Tryz.underlying5 w.heap.size 0 1 1 [x] (by simp) (fun i hi => by
    obtain rfl : i = 0 := by omega
    rw [Nat.add_zero, hb.cell]; rfl) 9 Tryz.underlying9
theorem strOfNums_one (x : Nat) : strOfNums [(x : Int)] = mkB [UInt8.ofNat x] := by
  simp [strOfNums, mkB]
theorem mkB_append (a b : List UInt8) : mkB a ++ mkB b = mkB (a ++ b) := by
  apply ByteArray.ext
  simp [mkB, ByteArray.data_append]
theorem str1 {x : Int} {y : Nat} (h : x = y) : strOfNums [x] = mkB [UInt8.ofNat y] := by rw [h, strOfNums_one]
theorem conv_blk {w : World} {g : Nat} {x : Int} (hb : Blk w g 5 #[.int .u8 x]) : (convert 42 9 (.slice (some ⟨g, 0, none⟩) 1 1)).run Tryz.prog w = .ok (.string (strOfNums [x])) w :=
  run_convert_bytes_arg (P := Tryz.prog) _ 42 5 Tryz.underlying42 Tryz.underlying5 g 0 1 1 [x] (by simp) (fun i hi => by
    obtain rfl : i = 0 := by omega
    rw [Nat.add_zero, hb.cell]; rfl) 9 Tryz.underlying9
theorem decimal_calls (n : Nat) (h : n < 256) (w : World) : Calls Tryz.prog 9 #[.int .u8 n] w fun e w' => e = .returned (.string (mkB (Lib.decDigits n))) ∧ Below w.heap.size w w' := by
  induction n using Nat.strongRecOn generalizing w with
  | _ n ih =>
    have hcv := one_str
    by_cases h10 : n < 10
    · have HD := Lib.hid (show mkB (Lib.decDigits n) = strOfNums [48 + (n : Int)] by rw [dec_lt h10, str1 (y := 48 + n) (by omega)])
      have h10' : (n : Int) < 10 := by omega
      clear ih
      go_enter Tryz.func9, Tryz.ntmps9
      go_wp2_with fail
      go_ret
      exact ⟨by rw [HD.out]; rfl, (Below.refl _ _).alloc (Nat.le_refl _) _⟩
    · have hl : (Lib.decDigits (n / 10)).length ≤ 10 := (dec_len2 (n / 10) 9 (by omega)).2
      have HI := Lib.hid (fun W => ih (n / 10) (by omega) (by omega) W)
      have HD := Lib.hid (show mkB (Lib.decDigits n) = mkB (Lib.decDigits (n / 10)) ++ strOfNums [((48 + n % 10 : Nat) : Int)] by rw [dec_ge h10, strOfNums_one, mkB_append])
      have hz : (mkB (Lib.decDigits (n / 10))).size ≤ 10 := by rw [mkB_size]; exact hl
      have hsz : ∀ x : Int, (strOfNums [x]).size = 1 := fun x => strOfNums_size [x]
      have h10' : (10 : Int) ≤ (n : Int) := by omega
      have e1 : ((n : Int) / 10) = ((n / 10 : Nat) : Int) := by omega
      generalize mkB (Lib.decDigits (n / 10)) = D at HI HD hz
      have e2 : (n : Int).tmod 10 = ((n % 10 : Nat) : Int) := by rw [Int.tmod_eq_emod_of_nonneg (by omega)]; omega
      have e3 : IntKind.u8.wrap ((n / 10 : Nat) : Int) = ((n / 10 : Nat) : Int) := by rw [IntKind.wrap_u8]; omega
      have e4 : IntKind.u8.wrap (48 + ((n % 10 : Nat) : Int)) = ((48 + n % 10 : Nat) : Int) := by rw [IntKind.wrap_u8]; omega
      have e5 : IntKind.u8.wrap ((48 + n % 10 : Nat) : Int) = ((48 + n % 10 : Nat) : Int) := by rw [IntKind.wrap_u8]; omega
      generalize 48 + n % 10 = x at HD e4 e5
      generalize n % 10 = d at e2 e4
      generalize n / 10 = m at HI e1 e3
      have hcvd : ∀ (w : World) (y : Int), (convert 42 9 (.slice (some ⟨w.heap.size, 0, none⟩) 1 1)).run Tryz.prog (w.alloc (.cells #[.int .u8 y] 5)).drew = .ok (.string (strOfNums [y])) (w.alloc (.cells #[.int .u8 y] 5)).drew := fun w y => conv_blk (Blk.new w 5 #[.int .u8 y]).drew
      have hadd : ∀ w, (Op.stringOp .add D (strOfNums [(x : Int)])).run Tryz.prog w = .ok (.string (D ++ strOfNums [(x : Int)])) w := fun w => run_string_add_sum w _ _ (by rw [hsz]; omega)
      clear ih hl h10 hsz hz
      go_enter Tryz.func9, Tryz.ntmps9
      go_wp2_with fail
      go_region_with (first
          | (go_at_call 9; (with_reducible refine (HI.out ((w.alloc (.cells #[.int .u8 (x : Int)] 5)).drew)).mono ?_); rintro e w1 ⟨rfl, hb⟩; have hcv2 := conv_blk ((Blk.new w 5 #[.int .u8 (x : Int)]).drew.keep hb); have HB := Lib.hid (belowOn (((Below.refl w.heap.size w).alloc (Nat.le_refl _) (.cells #[.int .u8 (x : Int)] 5)).drew) (by simp) hb); clear hb)
          | (go_at_call 9; (with_reducible refine (HI.out w.drew).mono ?_); rintro e w1 ⟨rfl, hb⟩; have HB := Lib.hid (((belowOn (Below.refl w.heap.size w).drew (Nat.le_refl _) hb).alloc (by have := hb.size; simpa using this) (.cells #[.int .u8 (x : Int)] 5))); clear hb))
      all_goals (
        go_wp2_with fail
        go_ret
        exact ⟨by rw [HD.out]; rfl, by first | exact HB.out | exact HB.out.drew⟩)

end Go.Proofs.YtodpjdeffhbkpaaGreatDoor
