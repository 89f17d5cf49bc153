/- The reference's text of an address. -/
import Derived.Test.YtcclghpoodbdcaaDoorFourAwake
import Derived.Test.YtcclghpoodbdcaaDoorPureLib
import Derived.Laws.BytesArg
import Derived.Deep.LoopGhost
set_option linter.unusedVariables false
set_option linter.unusedSimpArgs false
set_option maxRecDepth 100000
namespace Go.Proofs.YtcclghpoodbdcaaDoor
open Go.RowKit Four

theorem one_str (w : World) (x : Int) : (convert 37 9 (.slice (some ⟨w.heap.size, 0, none⟩) 1 1)).run Tryd.prog (w.alloc (.cells #[.int .u8 x] 5)) = .ok (.string (strOfNums [x])) (w.alloc (.cells #[.int .u8 x] 5)) := by
  have hb := Blk.new w 5 #[.int .u8 x]
  exact run_convert_bytes_arg (P := Tryd.prog) _ 37 5 Tryd.underlying37 Tryd.underlying5 w.heap.size 0 1 1 [x] (by simp) (fun i hi => by
    obtain rfl : i = 0 := by omega
    rw [Nat.add_zero, hb.cell]; rfl) 9 Tryd.underlying9
theorem one_str2 (w : World) (o : Obj) (x : Int) : (convert 37 9 (.slice (some ⟨w.heap.size + 1, 0, none⟩) 1 1)).run Tryd.prog ((w.alloc o).alloc (.cells #[.int .u8 x] 5)) = .ok (.string (strOfNums [x])) ((w.alloc o).alloc (.cells #[.int .u8 x] 5)) := by
  have := one_str (w.alloc o) x
  rw [show (w.alloc o).heap.size = w.heap.size + 1 by simp] at this
  exact this
theorem one_str3 (w : World) (o o' : Obj) (x : Int) : (convert 37 9 (.slice (some ⟨w.heap.size + 1 + 1, 0, none⟩) 1 1)).run Tryd.prog (((w.alloc o).alloc o').alloc (.cells #[.int .u8 x] 5)) = .ok (.string (strOfNums [x])) (((w.alloc o).alloc o').alloc (.cells #[.int .u8 x] 5)) := by
  have := one_str ((w.alloc o).alloc o') x
  rw [show ((w.alloc o).alloc o').heap.size = w.heap.size + 1 + 1 by simp] at this
  exact this
theorem strOfNums_one (x : Nat) : strOfNums [(x : Int)] = mkB [UInt8.ofNat x] := by
  simp [strOfNums, mkB]
theorem mkB_append (a b : List UInt8) : mkB a ++ mkB b = mkB (a ++ b) := by
  refine Go.Proofs.YtcclghpoodbdcaaDoor.Plain.data_inj ?_
  rw [Go.Proofs.YtcclghpoodbdcaaDoor.Plain.append_data, mkB_data, mkB_data, mkB_data]
theorem dec_3 {v : Nat} (h : 100 ≤ v) (h2 : v < 1000) : Lib.decDigits v = [UInt8.ofNat (48 + v / 100), UInt8.ofNat (48 + v / 10 % 10), UInt8.ofNat (48 + v % 10)] := by
  rw [dec_ge (by omega), dec_ge (by omega), dec_lt (by omega)]
  rw [show v / 10 / 10 = v / 100 by omega]
  rfl
theorem dec_2 {v : Nat} (h : 10 ≤ v) (h2 : v < 100) : Lib.decDigits v = [UInt8.ofNat (48 + v / 10 % 10), UInt8.ofNat (48 + v % 10)] := by
  rw [dec_ge (by omega), dec_lt (by omega), show v / 10 % 10 = v / 10 by omega]
  rfl
/-- The first k numbers, dots between. -/
def textK (a : Nat) : Nat → List UInt8
  | 0 => []
  | k + 1 => textK a k ++ (if k = 0 then [] else [46]) ++ dN a k
theorem textK_all (a : Nat) : textK a 4 = textL a := by
  rw [textL_eq]
  simp [textK]
theorem textK_len (a : Nat) : ∀ k, (textK a k).length ≤ 4 * k
  | 0 => by simp [textK]
  | k + 1 => by
    have ih := textK_len a k
    have h : (dN a k).length ≤ 3 := (dec_len2 _ 2 (by have := byteN_lt a k; omega)).2
    unfold textK
    split <;> simp <;> omega
structure RT (w : World) (a k A : Nat) (S : ByteArray) (w' : World) : Prop where
  le : k ≤ 4
  num : A = a * 256 ^ k % 4294967296
  str : S = mkB (textK a k)
  be : Below w.heap.size w w'

theorem RT.next {w w' w'' : World} {a k A A2 v : Nat} {S S2 : ByteArray} (h : RT w a k A S w') (hk : k < 4) (hv : v = byteN a k) (hA : A2 = A % 16777216 * 256) (hS : S2 = mkB (textK a k ++ (if k = 0 then [] else [46]) ++ Lib.decDigits v)) (hb : Below w.heap.size w w'') : RT w a (k + 1) A2 S2 w'' := by
  refine ⟨hk, ?_, ?_, hb⟩
  · rw [hA, h.num, Nat.pow_succ, ← Nat.mul_assoc]
    generalize a * 256 ^ k = z
    omega
  · rw [hS, hv]; rfl
theorem byte_top (a k A : Nat) (hk : k < 4) (h : A = a * 256 ^ k % 4294967296) : A / 16777216 = byteN a k := by
  unfold byteN
  obtain rfl | rfl | rfl | rfl : k = 0 ∨ k = 1 ∨ k = 2 ∨ k = 3 := by omega
  · have e : 256 ^ (3 - 0) = 16777216 := rfl
    have e2 : 256 ^ 0 = 1 := rfl
    rw [e]; rw [e2] at h; omega
  · have e : 256 ^ (3 - 1) = 65536 := rfl
    have e2 : 256 ^ 1 = 256 := rfl
    rw [e]; rw [e2] at h; omega
  · have e : 256 ^ (3 - 2) = 256 := rfl
    have e2 : 256 ^ 2 = 65536 := rfl
    rw [e]; rw [e2] at h; omega
  · have e : 256 ^ (3 - 3) = 1 := rfl
    have e2 : 256 ^ 3 = 16777216 := rfl
    rw [e]; rw [e2] at h; omega
theorem str1 {x : Int} {y : Nat} (h : x = y) : strOfNums [x] = mkB [UInt8.ofNat y] := by rw [h, strOfNums_one]
section
variable {S : ByteArray} {l : List UInt8} {v : Nat}
theorem ok30 (h : S = mkB l) (hv : v < 256) : S ++ strOfNums [48 + (v : Int) / 100] ++ strOfNums [48 + (v : Int) / 10 % 10] ++ strOfNums [48 + (v : Int) % 10] = mkB (l ++ [] ++ [UInt8.ofNat (48 + v / 100), UInt8.ofNat (48 + v / 10 % 10), UInt8.ofNat (48 + v % 10)]) := by
  rw [h, str1 (y := 48 + v / 100) (by omega), str1 (y := 48 + v / 10 % 10) (by omega), str1 (y := 48 + v % 10) (by omega), mkB_append, mkB_append, mkB_append]
  try simp
theorem ok31 (h : S = mkB l) (hv : v < 256) : S ++ (⟨#[46]⟩ : ByteArray) ++ strOfNums [48 + (v : Int) / 100] ++ strOfNums [48 + (v : Int) / 10 % 10] ++ strOfNums [48 + (v : Int) % 10] = mkB (l ++ [46] ++ [UInt8.ofNat (48 + v / 100), UInt8.ofNat (48 + v / 10 % 10), UInt8.ofNat (48 + v % 10)]) := by
  rw [h, str1 (y := 48 + v / 100) (by omega), str1 (y := 48 + v / 10 % 10) (by omega), str1 (y := 48 + v % 10) (by omega), show (⟨#[46]⟩ : ByteArray) = mkB [46] from rfl, mkB_append, mkB_append, mkB_append, mkB_append]
  try simp
theorem ok20 (h : S = mkB l) (hv : v < 256) : S ++ strOfNums [48 + (v : Int) / 10 % 10] ++ strOfNums [48 + (v : Int) % 10] = mkB (l ++ [] ++ [UInt8.ofNat (48 + v / 10 % 10), UInt8.ofNat (48 + v % 10)]) := by
  rw [h, str1 (y := 48 + v / 10 % 10) (by omega), str1 (y := 48 + v % 10) (by omega), mkB_append, mkB_append]
  try simp
theorem ok21 (h : S = mkB l) (hv : v < 256) : S ++ (⟨#[46]⟩ : ByteArray) ++ strOfNums [48 + (v : Int) / 10 % 10] ++ strOfNums [48 + (v : Int) % 10] = mkB (l ++ [46] ++ [UInt8.ofNat (48 + v / 10 % 10), UInt8.ofNat (48 + v % 10)]) := by
  rw [h, str1 (y := 48 + v / 10 % 10) (by omega), str1 (y := 48 + v % 10) (by omega), show (⟨#[46]⟩ : ByteArray) = mkB [46] from rfl, mkB_append, mkB_append, mkB_append]
  try simp
theorem ok10 (h : S = mkB l) (hv : v < 256) : S ++ strOfNums [48 + (v : Int) % 10] = mkB (l ++ [] ++ [UInt8.ofNat (48 + v % 10)]) := by
  rw [h, str1 (y := 48 + v % 10) (by omega), mkB_append]
  try simp
theorem ok11 (h : S = mkB l) (hv : v < 256) : S ++ (⟨#[46]⟩ : ByteArray) ++ strOfNums [48 + (v : Int) % 10] = mkB (l ++ [46] ++ [UInt8.ofNat (48 + v % 10)]) := by
  rw [h, str1 (y := 48 + v % 10) (by omega), show (⟨#[46]⟩ : ByteArray) = mkB [46] from rfl, mkB_append, mkB_append]
  try simp
end
theorem size_add (a b : ByteArray) : (a ++ b).size = a.size + b.size := by
  rw [← Go.Proofs.YtcclghpoodbdcaaDoor.Plain.len_data, Go.Proofs.YtcclghpoodbdcaaDoor.Plain.append_data, List.length_append, Go.Proofs.YtcclghpoodbdcaaDoor.Plain.len_data, Go.Proofs.YtcclghpoodbdcaaDoor.Plain.len_data]

set_option maxHeartbeats 4000000 in
theorem reftext_calls (a : Nat) (ha : a < 4294967296) (w : World) : Calls Tryd.prog 9 #[.int .u32 a] w fun e w' => e = .returned (.string (mkB (textL a))) ∧ Below w.heap.size w w' := by
  have hcv := one_str
  have hcv2 := one_str2
  have hcv3 := one_str3
  have HR0 := Lib.hid (show RT w a 0 a ⟨#[]⟩ w from ⟨by omega, by omega, rfl, Below.refl _ _⟩)
  go_enter Tryd.func9, Tryd.ntmps9
  go_wp2_with fail
  go_loopg [0, 3, 4] 4 (fun m v0 v3 v4 w' => Hid (∃ (k A : Nat) (S : ByteArray), v0 = .int .u32 A ∧ v3 = .string S ∧ v4 = .int .i64 k ∧ m = 4 - k ∧ RT w a k A S w'))
  case atStart => exact ⟨0, a, _, rfl, rfl, rfl, rfl, HR0.out⟩
  case round =>
    obtain ⟨k, A, S, rfl, rfl, rfl, hm, hT⟩ := hrel.out
    clear hrel HR0
    have HM := Lib.hid hm
    have HT := Lib.hid hT
    have hkle := hT.le
    clear hm hT
    by_cases hlt : k < 4
    · have hA : A < 4294967296 := by rw [HT.out.num]; omega
      have hS : S.size ≤ 16 := by rw [HT.out.str, mkB_size]; have := textK_len a k; omega
      have hv := byte_top a k A hlt HT.out.num
      obtain ⟨v, hv2⟩ : ∃ v, v = byteN a k := ⟨_, rfl⟩
      obtain ⟨A2, hA2⟩ : ∃ A2, A2 = A % 16777216 * 256 := ⟨_, rfl⟩
      have e1 : ((A : Int) / 16777216) = (v : Int) := by omega
      have e2 : ((A : Int) % 16777216 * 256) = (A2 : Int) := by omega
      have hvb : v < 256 := by rw [hv2]; exact byteN_lt a k
      have HV := Lib.hid (And.intro hv2 hA2)
      have hsz : ∀ x : Int, (strOfNums [x]).size = 1 := fun x => strOfNums_size [x]
      have hap := size_add
      clear hv hv2 hA2
      by_cases hk : k = 0
      · have hk0 : ¬ (0 : Int) < (k : Int) := by omega
        obtain h3 | h2 | h1 : 100 ≤ v ∨ (10 ≤ v ∧ v < 100) ∨ v < 10 := by omega
        · have hc1 : (100 : Int) ≤ (v : Int) := by omega
          have hc2 : (10 : Int) ≤ (v : Int) := by omega
          have HD := Lib.hid (show Lib.decDigits v = [UInt8.ofNat (48 + v / 100), UInt8.ofNat (48 + v / 10 % 10), UInt8.ofNat (48 + v % 10)] from dec_3 (by omega) (by omega))
          go_wp2_with fail
          go_roundg (4 - (k + 1))
          case measure => have := HM.out; omega
          case rel =>
            refine ⟨k + 1, A2, _, rfl, rfl, by go_num, rfl, HT.out.next (by omega) HV.out.1 HV.out.2 ?_ (((HT.out.be.alloc HT.out.be.size _).alloc (Nat.le_trans HT.out.be.size (by simp)) _).alloc (Nat.le_trans HT.out.be.size (by simp; omega)) _)⟩
            rw [HD.out, if_pos hk]
            exact ok30 HT.out.str (by omega)
        · have hc1 : (v : Int) < 100 := by omega
          have hc2 : (10 : Int) ≤ (v : Int) := by omega
          have HD := Lib.hid (show Lib.decDigits v = [UInt8.ofNat (48 + v / 10 % 10), UInt8.ofNat (48 + v % 10)] from dec_2 (by omega) (by omega))
          go_wp2_with fail
          go_roundg (4 - (k + 1))
          case measure => have := HM.out; omega
          case rel =>
            refine ⟨k + 1, A2, _, rfl, rfl, by go_num, rfl, HT.out.next (by omega) HV.out.1 HV.out.2 ?_ ((HT.out.be.alloc HT.out.be.size _).alloc (Nat.le_trans HT.out.be.size (by simp)) _)⟩
            rw [HD.out, if_pos hk]
            exact ok20 HT.out.str (by omega)
        · have hc1 : (v : Int) < 100 := by omega
          have hc2 : (v : Int) < 10 := by omega
          have HD := Lib.hid (show Lib.decDigits v = [UInt8.ofNat (48 + v % 10)] from (dec_lt (by omega)).trans (by rw [show 48 + v = 48 + v % 10 by omega]))
          go_wp2_with fail
          go_roundg (4 - (k + 1))
          case measure => have := HM.out; omega
          case rel =>
            refine ⟨k + 1, A2, _, rfl, rfl, by go_num, rfl, HT.out.next (by omega) HV.out.1 HV.out.2 ?_ (HT.out.be.alloc HT.out.be.size _)⟩
            rw [HD.out, if_pos hk]
            exact ok10 HT.out.str (by omega)
      · have hk0 : (0 : Int) < (k : Int) := by omega
        have h46 : (ByteArray.mk #[46]).size = 1 := rfl
        obtain h3 | h2 | h1 : 100 ≤ v ∨ (10 ≤ v ∧ v < 100) ∨ v < 10 := by omega
        · have hc1 : (100 : Int) ≤ (v : Int) := by omega
          have hc2 : (10 : Int) ≤ (v : Int) := by omega
          have HD := Lib.hid (show Lib.decDigits v = [UInt8.ofNat (48 + v / 100), UInt8.ofNat (48 + v / 10 % 10), UInt8.ofNat (48 + v % 10)] from dec_3 (by omega) (by omega))
          go_wp2_with fail
          go_roundg (4 - (k + 1))
          case measure => have := HM.out; omega
          case rel =>
            refine ⟨k + 1, A2, _, rfl, rfl, by go_num, rfl, HT.out.next (by omega) HV.out.1 HV.out.2 ?_ (((HT.out.be.alloc HT.out.be.size _).alloc (Nat.le_trans HT.out.be.size (by simp)) _).alloc (Nat.le_trans HT.out.be.size (by simp; omega)) _)⟩
            rw [HD.out, if_neg hk]
            exact ok31 HT.out.str (by omega)
        · have hc1 : (v : Int) < 100 := by omega
          have hc2 : (10 : Int) ≤ (v : Int) := by omega
          have HD := Lib.hid (show Lib.decDigits v = [UInt8.ofNat (48 + v / 10 % 10), UInt8.ofNat (48 + v % 10)] from dec_2 (by omega) (by omega))
          go_wp2_with fail
          go_roundg (4 - (k + 1))
          case measure => have := HM.out; omega
          case rel =>
            refine ⟨k + 1, A2, _, rfl, rfl, by go_num, rfl, HT.out.next (by omega) HV.out.1 HV.out.2 ?_ ((HT.out.be.alloc HT.out.be.size _).alloc (Nat.le_trans HT.out.be.size (by simp)) _)⟩
            rw [HD.out, if_neg hk]
            exact ok21 HT.out.str (by omega)
        · have hc1 : (v : Int) < 100 := by omega
          have hc2 : (v : Int) < 10 := by omega
          have HD := Lib.hid (show Lib.decDigits v = [UInt8.ofNat (48 + v % 10)] from (dec_lt (by omega)).trans (by rw [show 48 + v = 48 + v % 10 by omega]))
          go_wp2_with fail
          go_roundg (4 - (k + 1))
          case measure => have := HM.out; omega
          case rel =>
            refine ⟨k + 1, A2, _, rfl, rfl, by go_num, rfl, HT.out.next (by omega) HV.out.1 HV.out.2 ?_ (HT.out.be.alloc HT.out.be.size _)⟩
            rw [HD.out, if_neg hk]
            exact ok11 HT.out.str (by omega)
    · obtain rfl : k = 4 := by omega
      have HS := Lib.hid (show S = mkB (textL a) by rw [HT.out.str, textK_all])
      clear hcv hcv2 hcv3
      go_wp2_with fail
      go_ret
      exact ⟨by rw [← HS.out]; rfl, HT.out.be⟩
end Go.Proofs.YtcclghpoodbdcaaDoor
