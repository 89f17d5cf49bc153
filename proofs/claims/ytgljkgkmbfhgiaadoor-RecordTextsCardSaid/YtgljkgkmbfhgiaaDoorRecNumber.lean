/- The reference's number: by base 10. (Turned from ipsix's decimal.) -/
import Derived.Test.YtgljkgkmbfhgiaaDoorHostFour
import Derived.Test.YtgljkgkmbfhgiaaDoorRecPure
import Derived.Deep.RegionHeld3
import Derived.RegionTactic
set_option linter.unusedVariables false
set_option linter.unusedSimpArgs false
set_option maxRecDepth 100000
namespace Go.Proofs.YtgljkgkmbfhgiaaDoor
open Go.RowKit Four Six

theorem one_strN (w : World) (x : Int) : (convert 82 9 (.slice (some ⟨w.heap.size, 0, none⟩) 1 1)).run Tryd.prog (w.alloc (.cells #[.int .u8 x] 5)) = .ok (.string (strOfNums [x])) (w.alloc (.cells #[.int .u8 x] 5)) := by
  have hb := Blk.new w 5 #[.int .u8 x]
  exact run_convert_bytes_arg (P := Tryd.prog) _ 82 5 Tryd.underlying82 Tryd.underlying5 w.heap.size 0 1 1 [x] (by simp) (fun i hi => by
    obtain rfl : i = 0 := by omega
    rw [Nat.add_zero, hb.cell]; rfl) 9 Tryd.underlying9
theorem strOfNums_oneN (x : Nat) : strOfNums [(x : Int)] = mkB [UInt8.ofNat x] := by
  simp [strOfNums, mkB]
theorem mkB_appendN (a b : List UInt8) : mkB a ++ mkB b = mkB (a ++ b) := by
  apply ByteArray.ext
  simp [mkB, ByteArray.data_append]
theorem str1N {x : Int} {y : Nat} (h : x = y) : strOfNums [x] = mkB [UInt8.ofNat y] := by rw [h, strOfNums_oneN]
theorem conv_blkN {w : World} {g : Nat} {x : Int} (hb : Blk w g 5 #[.int .u8 x]) : (convert 82 9 (.slice (some ⟨g, 0, none⟩) 1 1)).run Tryd.prog w = .ok (.string (strOfNums [x])) w :=
  run_convert_bytes_arg (P := Tryd.prog) _ 82 5 Tryd.underlying82 Tryd.underlying5 g 0 1 1 [x] (by simp) (fun i hi => by
    obtain rfl : i = 0 := by omega
    rw [Nat.add_zero, hb.cell]; rfl) 9 Tryd.underlying9
theorem number_calls (n : Nat) (h : n ≤ 9223372036854775807) (w : World) : Calls Tryd.prog 39 #[.int .i64 n] w fun e w' => e = .returned (.string (mkB (Lib.decDigits n))) ∧ Below w.heap.size w w' := by
  induction n using Nat.strongRecOn generalizing w with
  | _ n ih =>
    have hcv := one_strN
    by_cases h10 : n < 10
    · have HD := Lib.hid (show mkB (Lib.decDigits n) = strOfNums [48 + (n : Int)] by rw [dec_lt h10, str1N (y := 48 + n) (by omega)])
      have h10' : (n : Int) < 10 := by omega
      have w1 : IntKind.i64.wrap (48 + (n : Int)) = 48 + (n : Int) := by rw [IntKind.wrap_i64]; omega
      have w2 : IntKind.u8.wrap (48 + (n : Int)) = 48 + (n : Int) := by rw [IntKind.wrap_u8]; omega
      clear ih
      go_enter Tryd.func39, Tryd.ntmps39
      go_wp2_with fail
      go_ret
      exact ⟨by rw [HD.out]; rfl, (Below.refl _ _).alloc (Nat.le_refl _) _⟩
    · have hl : (Lib.decDigits (n / 10)).length ≤ 20 := (dec_len2 (n / 10) 19 (by omega)).2
      have HI := Lib.hid (fun W => ih (n / 10) (by omega) (by omega) W)
      have HD := Lib.hid (show mkB (Lib.decDigits n) = mkB (Lib.decDigits (n / 10)) ++ strOfNums [((48 + n % 10 : Nat) : Int)] by rw [dec_ge h10, strOfNums_oneN, mkB_appendN])
      have hz : (mkB (Lib.decDigits (n / 10))).size ≤ 20 := by rw [mkB_size]; exact hl
      have hsz : ∀ x : Int, (strOfNums [x]).size = 1 := fun x => strOfNums_size [x]
      have h10' : (10 : Int) ≤ (n : Int) := by omega
      have e1 : ((n : Int) / 10) = ((n / 10 : Nat) : Int) := by omega
      generalize mkB (Lib.decDigits (n / 10)) = D at HI HD hz
      have e2 : (n : Int).tmod 10 = ((n % 10 : Nat) : Int) := by rw [Int.tmod_eq_emod_of_nonneg (by omega)]; omega
      have e3 : IntKind.i64.wrap ((n / 10 : Nat) : Int) = ((n / 10 : Nat) : Int) := by rw [IntKind.wrap_i64]; omega
      have e4 : IntKind.i64.wrap (48 + ((n % 10 : Nat) : Int)) = ((48 + n % 10 : Nat) : Int) := by rw [IntKind.wrap_i64]; omega
      have e5 : IntKind.u8.wrap ((48 + n % 10 : Nat) : Int) = ((48 + n % 10 : Nat) : Int) := by rw [IntKind.wrap_u8]; omega
      have e6 : IntKind.u8.wrap (48 + ((n % 10 : Nat) : Int)) = ((48 + n % 10 : Nat) : Int) := by rw [IntKind.wrap_u8]; omega
      generalize 48 + n % 10 = x at HD e4 e5 e6
      generalize n % 10 = d at e2 e4 e6
      generalize n / 10 = m at HI e1 e3
      have hcvd : ∀ (w : World) (y : Int), (convert 82 9 (.slice (some ⟨w.heap.size, 0, none⟩) 1 1)).run Tryd.prog (w.alloc (.cells #[.int .u8 y] 5)).drew = .ok (.string (strOfNums [y])) (w.alloc (.cells #[.int .u8 y] 5)).drew := fun w y => conv_blkN (Blk.new w 5 #[.int .u8 y]).drew
      have hadd : ∀ w, (Op.stringOp .add D (strOfNums [(x : Int)])).run Tryd.prog w = .ok (.string (D ++ strOfNums [(x : Int)])) w := fun w => run_string_add_sum w _ _ (by rw [hsz]; omega)
      clear ih hl h10 hsz hz
      go_enter Tryd.func39, Tryd.ntmps39
      go_wp2_with fail
      go_region_with (first
          | (go_at_call 39; (with_reducible refine (HI.out ((w.alloc (.cells #[.int .u8 (x : Int)] 5)).drew)).mono ?_); rintro e w1 ⟨rfl, hb⟩; have hcv2 := conv_blkN ((Blk.new w 5 #[.int .u8 (x : Int)]).drew.keep hb); have HB := Lib.hid (belowOn (((Below.refl w.heap.size w).alloc (Nat.le_refl _) (.cells #[.int .u8 (x : Int)] 5)).drew) (by simp) hb); clear hb)
          | (go_at_call 39; (with_reducible refine (HI.out w.drew).mono ?_); rintro e w1 ⟨rfl, hb⟩; have HB := Lib.hid (((belowOn (Below.refl w.heap.size w).drew (Nat.le_refl _) hb).alloc (by have := hb.size; simpa using this) (.cells #[.int .u8 (x : Int)] 5))); clear hb))
      all_goals (
        go_wp2_with fail
        go_ret
        exact ⟨by rw [HD.out]; rfl, by first | exact HB.out | exact HB.out.drew⟩)

end Go.Proofs.YtgljkgkmbfhgiaaDoor
