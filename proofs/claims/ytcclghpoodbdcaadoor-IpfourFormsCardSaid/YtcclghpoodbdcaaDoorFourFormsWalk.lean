/- IpfourForms, walked: fewer parts are the same address: the last one has the bytes of those that are left out. -/
import Derived.Test.YtcclghpoodbdcaaDoorFourRefText
import Derived.Deep.RegionHeld3
import Derived.RegionTactic
set_option linter.unusedVariables false
set_option linter.unusedSimpArgs false
set_option maxRecDepth 100000
namespace Go.Proofs.YtcclghpoodbdcaaDoor
open Go.RowKit Four

theorem conv_blk {w : World} {g : Nat} {x : Int} (hb : Blk w g 5 #[.int .u8 x]) : (convert 37 9 (.slice (some ⟨g, 0, none⟩) 1 1)).run Tryd.prog w = .ok (.string (strOfNums [x])) w :=
  run_convert_bytes_arg (P := Tryd.prog) _ 37 5 Tryd.underlying37 Tryd.underlying5 g 0 1 1 [x] (by simp) (fun i hi => by
    obtain rfl : i = 0 := by omega
    rw [Nat.add_zero, hb.cell]; rfl) 9 Tryd.underlying9
theorem lawnum_calls (n : Nat) (h : n < 4294967296) (w : World) : Calls Tryd.prog 13 #[.int .u32 n] w fun e w' => e = .returned (.string (mkB (Lib.decDigits n))) ∧ Below w.heap.size w w' := by
  induction n using Nat.strongRecOn generalizing w with
  | _ n ih =>
    have hcv := one_str
    by_cases h10 : n < 10
    · have HD := Lib.hid (show mkB (Lib.decDigits n) = strOfNums [48 + (n : Int)] by rw [dec_lt h10, str1 (y := 48 + n) (by omega)])
      have h10' : (n : Int) < 10 := by omega
      clear ih
      go_enter Tryd.func13, Tryd.ntmps13
      go_wp2_with fail
      go_ret
      exact ⟨by rw [HD.out]; rfl, (Below.refl _ _).alloc (Nat.le_refl _) _⟩
    · have hl : (Lib.decDigits (n / 10)).length ≤ 10 := (dec_len2 (n / 10) 9 (by omega)).2
      have HI := Lib.hid (fun W => ih (n / 10) (by omega) (by omega) W)
      have HD := Lib.hid (show mkB (Lib.decDigits n) = mkB (Lib.decDigits (n / 10)) ++ strOfNums [((48 + n % 10 : Nat) : Int)] by rw [dec_ge h10, strOfNums_one, mkB_append])
      have hz : (mkB (Lib.decDigits (n / 10))).size ≤ 10 := by rw [mkB_size]; exact hl
      have hsz : ∀ x : Int, (strOfNums [x]).size = 1 := fun x => strOfNums_size [x]
      have h10' : (10 : Int) ≤ (n : Int) := by omega
      have e1 : ((n : Int) / 10) = ((n / 10 : Nat) : Int) := by omega
      generalize mkB (Lib.decDigits (n / 10)) = D at HI HD hz
      have e2 : (n : Int).tmod 10 = ((n % 10 : Nat) : Int) := by rw [Int.tmod_eq_emod_of_nonneg (by omega)]; omega
      have e3 : IntKind.u32.wrap ((n / 10 : Nat) : Int) = ((n / 10 : Nat) : Int) := by rw [IntKind.wrap_u32]; omega
      have e4 : IntKind.u32.wrap (48 + ((n % 10 : Nat) : Int)) = ((48 + n % 10 : Nat) : Int) := by rw [IntKind.wrap_u32]; omega
      have e5 : IntKind.u8.wrap ((48 + n % 10 : Nat) : Int) = ((48 + n % 10 : Nat) : Int) := by rw [IntKind.wrap_u8]; omega
      generalize 48 + n % 10 = x at HD e4 e5
      generalize n % 10 = d at e2 e4
      generalize n / 10 = m at HI e1 e3
      have hcvd : ∀ (w : World) (y : Int), (convert 37 9 (.slice (some ⟨w.heap.size, 0, none⟩) 1 1)).run Tryd.prog (w.alloc (.cells #[.int .u8 y] 5)).drew = .ok (.string (strOfNums [y])) (w.alloc (.cells #[.int .u8 y] 5)).drew := fun w y => conv_blk (Blk.new w 5 #[.int .u8 y]).drew
      have hadd : ∀ w, (Op.stringOp .add D (strOfNums [(x : Int)])).run Tryd.prog w = .ok (.string (D ++ strOfNums [(x : Int)])) w := fun w => run_string_add_sum w _ _ (by rw [hsz]; omega)
      clear ih hl h10 hsz hz
      go_enter Tryd.func13, Tryd.ntmps13
      go_wp2_with fail
      go_region_with (first
          | (go_at_call 13; (with_reducible refine (HI.out ((w.alloc (.cells #[.int .u8 (x : Int)] 5)).drew)).mono ?_); rintro e w1 ⟨rfl, hb⟩; have hcv2 := conv_blk ((Blk.new w 5 #[.int .u8 (x : Int)]).drew.keep hb); have HB := Lib.hid (belowOn (((Below.refl w.heap.size w).alloc (Nat.le_refl _) (.cells #[.int .u8 (x : Int)] 5)).drew) (by simp) hb); clear hb)
          | (go_at_call 13; (with_reducible refine (HI.out w.drew).mono ?_); rintro e w1 ⟨rfl, hb⟩; have HB := Lib.hid (((belowOn (Below.refl w.heap.size w).drew (Nat.le_refl _) hb).alloc (by have := hb.size; simpa using this) (.cells #[.int .u8 (x : Int)] 5))); clear hb))
      all_goals (
        go_wp2_with fail
        go_ret
        exact ⟨by rw [HD.out]; rfl, by first | exact HB.out | exact HB.out.drew⟩)

set_option maxHeartbeats 4000000 in
theorem forms_calls (a b : Nat) (ha : a < 4294967296) (hb : b < 256) (w : World) (hF : FW w) : Calls Tryd.prog 6 #[.int .u32 a, .int .u8 b] w fun e w' => e = .returned (.bool true) ∧ Below w.heap.size w w' := by
  have HF := Lib.hid hF
  obtain ⟨N, hN⟩ : ∃ N, N = mkB (Lib.decDigits b) := ⟨_, rfl⟩
  obtain ⟨X, hX⟩ : ∃ X, X = mkB (Lib.decDigits a) := ⟨_, rfl⟩
  obtain ⟨Y, hY⟩ : ∃ Y, Y = mkB (Lib.decDigits (a % 16777216)) := ⟨_, rfl⟩
  obtain ⟨Z, hZ⟩ : ∃ Z, Z = mkB (Lib.decDigits (a % 65536)) := ⟨_, rfl⟩
  have hzN : N.size ≤ 20 := by rw [hN, mkB_size]; have := (dec_len2 b 2 (by omega)).2; omega
  have hzX : X.size ≤ 20 := by rw [hX, mkB_size]; have := (dec_len2 a 9 (by omega)).2; omega
  have hzY : Y.size ≤ 20 := by rw [hY, mkB_size]; have := (dec_len2 (a % 16777216) 9 (by omega)).2; omega
  have hzZ : Z.size ≤ 20 := by rw [hZ, mkB_size]; have := (dec_len2 (a % 65536) 9 (by omega)).2; omega
  have HNa := Lib.hid (fun W => lawnum_calls a ha W)
  have HNb := Lib.hid (fun W => lawnum_calls b (by omega) W)
  have HNy := Lib.hid (fun W => lawnum_calls (a % 16777216) (by omega) W)
  have HNz := Lib.hid (fun W => lawnum_calls (a % 65536) (by omega) W)
  rw [← hX] at HNa
  rw [← hN] at HNb
  rw [← hY] at HNy
  rw [← hZ] at HNz
  have d2 : (N ++ (⟨#[46]⟩ : ByteArray) ++ Y) = mkB (Lib.decDigits b ++ 46 :: Lib.decDigits (a % 16777216)) := by
    rw [hN, hY, show (⟨#[46]⟩ : ByteArray) = mkB [46] from rfl, mkB_append, mkB_append]
    simp
  have d3 : (N ++ (⟨#[46, 48, 120, 49, 46]⟩ : ByteArray) ++ Z) = mkB (Lib.decDigits b ++ 46 :: ([48, 120, 49] ++ 46 :: Lib.decDigits (a % 65536))) := by
    rw [hN, hZ, show (⟨#[46, 48, 120, 49, 46]⟩ : ByteArray) = mkB [46, 48, 120, 49, 46] from rfl, mkB_append, mkB_append]
    simp
  have s1 : (⟨#[46]⟩ : ByteArray).size = 1 := rfl
  have s2 : (⟨#[46, 48, 120, 49, 46]⟩ : ByteArray).size = 5 := rfl
  have z2 : (N ++ (⟨#[46]⟩ : ByteArray) ++ Y).size ≤ 1000 := by rw [size_add, size_add, s1]; omega
  have z3 : (N ++ (⟨#[46, 48, 120, 49, 46]⟩ : ByteArray) ++ Z).size ≤ 1000 := by rw [size_add, size_add, s2]; omega
  have HP1 := Lib.hid (fun (W : World) (h : FW W) => parse_ok X a h (by omega) (by rw [hX, mkB_data]; exact parse_one a ha))
  have HP2 := Lib.hid (fun (W : World) (h : FW W) => parse_ok _ (b * 16777216 + a % 16777216) h z2 (by rw [d2, mkB_data]; exact parse_two b _ hb (by omega)))
  have HP3 := Lib.hid (fun (W : World) (h : FW W) => parse_ok _ (b * 16777216 + 65536 + a % 65536) h z3 (by rw [d3, mkB_data]; exact parse_three b _ hb (by omega)))
  have hadd1 : ∀ w, (Op.stringOp .add N ⟨#[46]⟩).run Tryd.prog w = .ok (.string (N ++ ⟨#[46]⟩)) w := fun w => run_string_add_sum w _ _ (by rw [s1]; omega)
  have hadd2 : ∀ w, (Op.stringOp .add (N ++ ⟨#[46]⟩) Y).run Tryd.prog w = .ok (.string (N ++ ⟨#[46]⟩ ++ Y)) w := fun w => run_string_add_sum w _ _ (by rw [size_add, s1]; omega)
  have hadd3 : ∀ w, (Op.stringOp .add N ⟨#[46, 48, 120, 49, 46]⟩).run Tryd.prog w = .ok (.string (N ++ ⟨#[46, 48, 120, 49, 46]⟩)) w := fun w => run_string_add_sum w _ _ (by rw [s2]; omega)
  have hadd4 : ∀ w, (Op.stringOp .add (N ++ ⟨#[46, 48, 120, 49, 46]⟩) Z).run Tryd.prog w = .ok (.string (N ++ ⟨#[46, 48, 120, 49, 46]⟩ ++ Z)) w := fun w => run_string_add_sum w _ _ (by rw [size_add, s2]; omega)
  have ey : ((a : Int) % 16777216) = ((a % 16777216 : Nat) : Int) := by omega
  have ez : ((a : Int) % 65536) = ((a % 65536 : Nat) : Int) := by omega
  have hy : a % 16777216 < 16777216 := by omega
  have hz : a % 65536 < 65536 := by omega
  generalize a % 16777216 = y at *
  generalize a % 65536 = z at *
  clear hF hN hX hY hZ d2 d3 s1 s2 z2 z3 hzN hzX hzY hzZ
  go_enter Tryd.func6, Tryd.ntmps6
  go_wp2_with fail
  refine (awake_calls HF.out).mono ?_
  rintro e w1 ⟨rfl, hb1⟩
  have H1 := Lib.hid hb1
  clear hb1
  go_wp2_with fail
  refine (HNa.out _).mono ?_
  rintro e w2 ⟨rfl, hb1⟩
  have H2 := Lib.hid (belowOn H1.out H1.out.size hb1)
  clear hb1
  go_wp2_with fail
  refine (HP1.out _ (HF.out.keep H2.out)).mono ?_
  rintro e w3 ⟨rfl, hb1⟩
  have H3 := Lib.hid (belowOn H2.out H2.out.size hb1)
  clear hb1
  go_wp2_with fail
  refine (HNb.out _).mono ?_
  rintro e w4 ⟨rfl, hb1⟩
  have H4 := Lib.hid (belowOn H3.out H3.out.size hb1)
  clear hb1
  go_wp2_with fail
  refine (HNy.out _).mono ?_
  rintro e w5 ⟨rfl, hb1⟩
  have H5 := Lib.hid (belowOn H4.out H4.out.size hb1)
  clear hb1
  go_wp2_with fail
  refine (HP2.out _ (HF.out.keep H5.out)).mono ?_
  rintro e w6 ⟨rfl, hb1⟩
  have H6 := Lib.hid (belowOn H5.out H5.out.size hb1)
  clear hb1
  go_wp2_with fail
  refine (HNb.out _).mono ?_
  rintro e w7 ⟨rfl, hb1⟩
  have H7 := Lib.hid (belowOn H6.out H6.out.size hb1)
  clear hb1
  go_wp2_with fail
  refine (HNz.out _).mono ?_
  rintro e w8 ⟨rfl, hb1⟩
  have H8 := Lib.hid (belowOn H7.out H7.out.size hb1)
  clear hb1
  go_wp2_with fail
  refine (HP3.out _ (HF.out.keep H8.out)).mono ?_
  rintro e w9 ⟨rfl, hb1⟩
  have H9 := Lib.hid (belowOn H8.out H8.out.size hb1)
  clear hb1
  go_wp2_with fail
  go_ret
  exact ⟨by simp, H9.out⟩
end Go.Proofs.YtcclghpoodbdcaaDoor
