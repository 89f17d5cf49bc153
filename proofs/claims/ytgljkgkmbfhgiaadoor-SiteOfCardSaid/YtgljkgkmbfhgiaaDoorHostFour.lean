/- ipfour.Text; the reference's. -/
import Derived.Test.YtgljkgkmbfhgiaaDoorHostWorld
import Derived.Test.YtgljkgkmbfhgiaaDoorRowR
import Derived.Test.YtgljkgkmbfhgiaaDoorFourBack
import Derived.Test.YtgljkgkmbfhgiaaDoorPureLib
import Derived.Laws.BytesArg
import Derived.Deep.LoopGhost
set_option linter.unusedVariables false
set_option linter.unusedSimpArgs false
set_option maxRecDepth 100000
namespace Go.Proofs.YtgljkgkmbfhgiaaDoor
open Go.RowKit Four

theorem below_grow4 (w : World) (k : Nat) (os : Array Obj) : Below w.heap.size w (Go.Sort.grow (w.drewN k) os) :=
  ⟨rfl, rfl, rfl, by simp [Go.Sort.grow], fun i hi => by simp only [Go.Sort.grow]; exact Array.getElem?_append_left hi⟩
theorem itoa4_calls (n : Nat) {w : World} (hF : FW w) (hn : n ≤ 1000000) :
    Calls Tryd.prog 51 #[.int .i64 n] w fun e w' => e = .returned (.string (mkB (Lib.decDigits n))) ∧ Below w.heap.size w w' := by
  refine (Tryd.strconv_Itoa n (by omega) (by omega) w hF.tab).mono ?_
  rintro e w' ⟨rfl, k, os, rfl⟩
  exact ⟨by unfold mkB; rw [Lib.itoa_nonneg], below_grow4 _ k os⟩
def strC4 (l : List UInt8) : List Value := [.string (mkB l)]
theorem info_str4 : (Tryd.prog.info? 9).map (fun i => (i.zero, i.size, i.bytes)) = some (some (.string ⟨#[]⟩), 1, 16) := by kernel_rfl
structure TRel (w : World) (a k : Nat) (v : Value) (w' : World) : Prop where
  own : OwnR w' w.heap.size 9 1 strC4 v ((List.range k).map fun j => Lib.decDigits (byteN a j))
  be : Below w.heap.size w w'

theorem wraps_u32 (n : Int) (h₀ : 0 ≤ n) (h₁ : n < 2 ^ 32) : IntKind.u32.wrap n = n := by rw [IntKind.wrap_u32]; omega
theorem and255 (x : Nat) (hx : x < 4294967296) : wrap64 (bits .and .u32 (x : Int) 255) = ((x % 256 : Nat) : Int) := by
  have h := bits_mask .u32 32 (by decide) wraps_u32 8 (by decide) (x : Int) (by omega) (by omega)
  have e : ((2 : Int) ^ 8 - 1) = 255 := by decide
  rw [e] at h
  rw [h]
  unfold wrap64
  have e2 : ((2 : Int) ^ 8) = 256 := by decide
  rw [e2]
  omega
theorem rowAt_blk4 {α : Type} {f : α → List Value} {sz : Nat} (hf : ∀ x, (f x).length = sz) {w : World} {g : Nat} {t : TypeId} {cs : Array Value} {l : List α} (h : Blk w g t cs) (hc : cs.toList = l.flatMap f) : RowAt f sz w (some ⟨g, 0, none⟩) l := by
  intro i x hx
  refine ⟨g, 0, rfl, fun j u hu => ?_⟩
  have hj : j < sz := by rw [← hf x]; exact (List.getElem?_eq_some_iff.1 hu).1
  rw [h.cell, Nat.zero_add, ← Array.getElem?_toList, hc, flat_get hf l i j x hx hj]
  exact hu
theorem strRow_one (w : World) (t : TypeId) (x : List UInt8) : RowAt strC4 1 (w.alloc (.cells #[.string (mkB x)] t)) (some ⟨w.heap.size, 0, none⟩) [x] :=
  rowAt_blk4 (f := strC4) (fun _ => rfl) (Blk.new w t _) rfl
theorem TRel.next {w w1 w2 w5 : World} {a k : Nat} {v v' : Value} (h : TRel w a k v w1) (hb : Below w1.heap.size w1 w2)
    (ho : OwnR w5 w.heap.size 9 1 strC4 v' (((List.range k).map fun j => Lib.decDigits (byteN a j)) ++ [Lib.decDigits (byteN a k)])) (hg : (w2.alloc (.cells #[.string (mkB (Lib.decDigits (byteN a k)))] 9)).grownBy w5 v.ownBlock) : TRel w a (k + 1) v' w5 := by
  have hk : Below w1.heap.size w1 (w2.alloc (.cells #[.string (mkB (Lib.decDigits (byteN a k)))] 9)) := hb.alloc hb.size _
  have hown : ∀ g, v.ownBlock = some g → w.heap.size ≤ g ∧ ∃ cur, Blk w1 g 9 cur := fun g e => row_blk h.own e
  exact ⟨by rw [List.range_succ, List.map_append]; exact ho, (belowOn h.be h.be.size hk).grown hg (Nat.le_trans h.be.size hk.size) (fun k e => (hown k e).1)⟩

theorem text_short (a : Nat) : (Lib.join ((((List.range 4).map fun j => Lib.decDigits (byteN a j)).map mkB).map (·.data.toList)) (ByteArray.mk #[46]).data.toList).length ≤ 140737488355328 := by
  have e : ((((List.range 4).map fun j => Lib.decDigits (byteN a j)).map mkB).map (·.data.toList)) = (List.range 4).map fun k => Lib.decDigits (byteN a k) := by
    rw [List.map_map]
    conv => rhs; rw [← List.map_id ((List.range 4).map fun k => Lib.decDigits (byteN a k))]
    exact List.map_congr_left fun l _ => mkB_data l
  rw [e]
  have h : (textL a).length ≤ 15 := (text_len a).2
  have h2 : (Lib.join ((List.range 4).map fun k => Lib.decDigits (byteN a k)) (ByteArray.mk #[46]).data.toList).length ≤ 15 := h
  omega

set_option maxHeartbeats 4000000 in
theorem text4_calls (a : Nat) (ha : a < 4294967296) {w : World} (hF : FW w) :
    Calls Tryd.prog 65 #[.int .u32 a] w fun e w' => e = .returned (.string (mkB (textL a))) ∧ Below w.heap.size w w' := by
  have HR0 := Lib.hid (show TRel w a 0 (.slice none 0 0) w from ⟨OwnR.nil _ _ _ _ _, Below.refl _ _⟩)
  have HF := Lib.hid hF
  clear hF
  go_enter Tryd.func65, Tryd.ntmps65
  go_wp2_with fail
  go_loopg [4, 3] 4 (fun m v4 v3 w' => Hid (∃ (k : Nat), k ≤ 4 ∧ v4 = .int .i64 (24 - 8 * (k : Int)) ∧ m = 4 - k ∧ TRel w a k v3 w'))
  case atStart => exact ⟨0, by omega, rfl, rfl, HR0.out⟩
  case round =>
    obtain ⟨k, hk, rfl, hm, hT⟩ := hrel.out
    clear hrel HR0
    have HM := Lib.hid hm
    have HT := Lib.hid hT
    clear hm hT
    by_cases hlt : k < 4
    · have HI := Lib.hid (itoa4_calls (byteN a k) (HF.out.keep HT.out.be) (by unfold byteN; omega))
      obtain rfl | rfl | rfl | rfl : k = 0 ∨ k = 1 ∨ k = 2 ∨ k = 3 := by omega
      · go_wp2_with fail
        rw [show wrap64 (bits .and .u32 ((a : Int) / 16777216) 255) = ((byteN a 0 : Nat) : Int) from by
          rw [show ((a : Int) / 16777216) = ((a / 16777216 : Nat) : Int) by omega]; exact and255 _ (by omega)]
        refine HI.out.mono ?_
        rintro e w2 ⟨rfl, hb2⟩
        have HB2 := Lib.hid hb2
        clear hb2 HI
        go_wp2_with (at_builtin; refine stop_here ?_)
        refine stop_go ?_
        refine wpList_appendR strC4 1 (fun _ => rfl) (by omega) (fun x u hu => by simp [strC4] at hu; subst hu; rfl) rfl (.tmp 9) (.tmp 16) _ 9 _ 16 rfl Tryd.underlying27 info_str4 rfl (by omega) w.heap.size u3 _ (some ⟨w2.heap.size, 0, none⟩) 1 [Lib.decDigits (byteN a 0)] rfl rfl (HT.out.own.below (HB2.out.alloc HB2.out.size _)) (strRow_one _ _ _) (by simp) (by have := HT.out.be.size; have := HB2.out.size; simp; omega) ?_
        intro v' w5 ho hg _
        have HN := Lib.hid (HT.out.next HB2.out ho hg)
        clear ho hg
        go_wp2_with fail
        go_roundg (4 - (0 + 1))
        case measure => have := HM.out; omega
        case rel => exact ⟨0 + 1, by omega, by first | rfl | go_num, rfl, HN.out⟩
      · go_wp2_with fail
        rw [show wrap64 (bits .and .u32 ((a : Int) / 65536) 255) = ((byteN a 1 : Nat) : Int) from by
          rw [show ((a : Int) / 65536) = ((a / 65536 : Nat) : Int) by omega]; exact and255 _ (by omega)]
        refine HI.out.mono ?_
        rintro e w2 ⟨rfl, hb2⟩
        have HB2 := Lib.hid hb2
        clear hb2 HI
        go_wp2_with (at_builtin; refine stop_here ?_)
        refine stop_go ?_
        refine wpList_appendR strC4 1 (fun _ => rfl) (by omega) (fun x u hu => by simp [strC4] at hu; subst hu; rfl) rfl (.tmp 9) (.tmp 16) _ 9 _ 16 rfl Tryd.underlying27 info_str4 rfl (by omega) w.heap.size u3 _ (some ⟨w2.heap.size, 0, none⟩) 1 [Lib.decDigits (byteN a 1)] rfl rfl (HT.out.own.below (HB2.out.alloc HB2.out.size _)) (strRow_one _ _ _) (by simp) (by have := HT.out.be.size; have := HB2.out.size; simp; omega) ?_
        intro v' w5 ho hg _
        have HN := Lib.hid (HT.out.next HB2.out ho hg)
        clear ho hg
        go_wp2_with fail
        go_roundg (4 - (1 + 1))
        case measure => have := HM.out; omega
        case rel => exact ⟨1 + 1, by omega, by first | rfl | go_num, rfl, HN.out⟩
      · go_wp2_with fail
        rw [show wrap64 (bits .and .u32 ((a : Int) / 256) 255) = ((byteN a 2 : Nat) : Int) from by
          rw [show ((a : Int) / 256) = ((a / 256 : Nat) : Int) by omega]; exact and255 _ (by omega)]
        refine HI.out.mono ?_
        rintro e w2 ⟨rfl, hb2⟩
        have HB2 := Lib.hid hb2
        clear hb2 HI
        go_wp2_with (at_builtin; refine stop_here ?_)
        refine stop_go ?_
        refine wpList_appendR strC4 1 (fun _ => rfl) (by omega) (fun x u hu => by simp [strC4] at hu; subst hu; rfl) rfl (.tmp 9) (.tmp 16) _ 9 _ 16 rfl Tryd.underlying27 info_str4 rfl (by omega) w.heap.size u3 _ (some ⟨w2.heap.size, 0, none⟩) 1 [Lib.decDigits (byteN a 2)] rfl rfl (HT.out.own.below (HB2.out.alloc HB2.out.size _)) (strRow_one _ _ _) (by simp) (by have := HT.out.be.size; have := HB2.out.size; simp; omega) ?_
        intro v' w5 ho hg _
        have HN := Lib.hid (HT.out.next HB2.out ho hg)
        clear ho hg
        go_wp2_with fail
        go_roundg (4 - (2 + 1))
        case measure => have := HM.out; omega
        case rel => exact ⟨2 + 1, by omega, by first | rfl | go_num, rfl, HN.out⟩
      · go_wp2_with fail
        rw [show wrap64 (bits .and .u32 (a : Int) 255) = ((byteN a 3 : Nat) : Int) from by
          unfold byteN; rw [show 256 ^ (3 - 3) = 1 by rfl, Nat.div_one]; exact and255 _ (by omega)]
        refine HI.out.mono ?_
        rintro e w2 ⟨rfl, hb2⟩
        have HB2 := Lib.hid hb2
        clear hb2 HI
        go_wp2_with (at_builtin; refine stop_here ?_)
        refine stop_go ?_
        refine wpList_appendR strC4 1 (fun _ => rfl) (by omega) (fun x u hu => by simp [strC4] at hu; subst hu; rfl) rfl (.tmp 9) (.tmp 16) _ 9 _ 16 rfl Tryd.underlying27 info_str4 rfl (by omega) w.heap.size u3 _ (some ⟨w2.heap.size, 0, none⟩) 1 [Lib.decDigits (byteN a 3)] rfl rfl (HT.out.own.below (HB2.out.alloc HB2.out.size _)) (strRow_one _ _ _) (by simp) (by have := HT.out.be.size; have := HB2.out.size; simp; omega) ?_
        intro v' w5 ho hg _
        have HN := Lib.hid (HT.out.next HB2.out ho hg)
        clear ho hg
        go_wp2_with fail
        go_roundg (4 - (3 + 1))
        case measure => have := HM.out; omega
        case rel => exact ⟨3 + 1, by omega, by first | rfl | go_num, rfl, HN.out⟩
    · obtain rfl : k = 4 := by omega
      have ho := HT.out.own
      obtain ⟨A, c, hv, hrow, hc, hcm, hA⟩ := ho.row (fun _ => rfl)
      obtain ⟨b, off, rfl, h0⟩ := hrow 0 _ rfl
      obtain ⟨_, _, rfl⟩ := hA b off rfl
      have HJ := Lib.hid (fun (W : World) (hW : W = wr) => Tryd.strings_Join b 0 c (((List.range 4).map fun j => Lib.decDigits (byteN a j)).map mkB) ⟨#[46]⟩ W (fun j x hx => by
        rw [List.getElem?_map] at hx
        obtain ⟨y, hy, rfl⟩ := Option.map_eq_some_iff.1 hx
        obtain ⟨b', off', e, hcell⟩ := hrow j y hy
        cases e
        have := hcell 0 _ rfl
        rw [hW]
        simpa using this) (by rw [hW]; exact World.block_lt_of_cell? _ _ (h0 0 _ rfl)) (by simp) (by simpa using hc) (text_short a))
      have e : ((((List.range 4).map fun j => Lib.decDigits (byteN a j)).map mkB).map (·.data.toList)) = (List.range 4).map fun k => Lib.decDigits (byteN a k) := by
        rw [List.map_map]
        conv => rhs; rw [← List.map_id ((List.range 4).map fun k => Lib.decDigits (byteN a k))]
        exact List.map_congr_left fun l _ => mkB_data l
      rw [e] at HJ
      rw [show (((List.range 4).map fun j => Lib.decDigits (byteN a j)).map mkB).length = 4 from rfl] at HJ
      have hv2 : u3 = .slice (some ⟨b, 0, none⟩) 4 c := hv
      have HB := Lib.hid HT.out.be
      clear h0 hrow hA ho hv e
      subst hv2
      go_wp2_with (go_at_call 50; refine (HJ.out _ rfl).mono ?_; rintro e w2 ⟨rfl, hb2⟩; have HB2 := Lib.hid (belowOn HB.out HB.out.size hb2); clear hb2)
      go_ret
      exact ⟨rfl, HB2.out⟩
end Go.Proofs.YtgljkgkmbfhgiaaDoor
set_option maxRecDepth 100000
namespace Go.Proofs.YtgljkgkmbfhgiaaDoor
open Go.RowKit Four

theorem one_str (w : World) (x : Int) : (convert 82 9 (.slice (some ⟨w.heap.size, 0, none⟩) 1 1)).run Tryd.prog (w.alloc (.cells #[.int .u8 x] 5)) = .ok (.string (strOfNums [x])) (w.alloc (.cells #[.int .u8 x] 5)) := by
  have hb := Blk.new w 5 #[.int .u8 x]
  exact run_convert_bytes_arg (P := Tryd.prog) _ 82 5 Tryd.underlying82 Tryd.underlying5 w.heap.size 0 1 1 [x] (by simp) (fun i hi => by
    obtain rfl : i = 0 := by omega
    rw [Nat.add_zero, hb.cell]; rfl) 9 Tryd.underlying9
theorem one_str2 (w : World) (o : Obj) (x : Int) : (convert 82 9 (.slice (some ⟨w.heap.size + 1, 0, none⟩) 1 1)).run Tryd.prog ((w.alloc o).alloc (.cells #[.int .u8 x] 5)) = .ok (.string (strOfNums [x])) ((w.alloc o).alloc (.cells #[.int .u8 x] 5)) := by
  have := one_str (w.alloc o) x
  rw [show (w.alloc o).heap.size = w.heap.size + 1 by simp] at this
  exact this
theorem one_str3 (w : World) (o o' : Obj) (x : Int) : (convert 82 9 (.slice (some ⟨w.heap.size + 1 + 1, 0, none⟩) 1 1)).run Tryd.prog (((w.alloc o).alloc o').alloc (.cells #[.int .u8 x] 5)) = .ok (.string (strOfNums [x])) (((w.alloc o).alloc o').alloc (.cells #[.int .u8 x] 5)) := by
  have := one_str ((w.alloc o).alloc o') x
  rw [show ((w.alloc o).alloc o').heap.size = w.heap.size + 1 + 1 by simp] at this
  exact this
theorem strOfNums_one (x : Nat) : strOfNums [(x : Int)] = mkB [UInt8.ofNat x] := by
  simp [strOfNums, mkB]
theorem mkB_append (a b : List UInt8) : mkB a ++ mkB b = mkB (a ++ b) := by
  refine Go.Proofs.YtgljkgkmbfhgiaaDoor.Plain.data_inj ?_
  rw [Go.Proofs.YtgljkgkmbfhgiaaDoor.Plain.append_data, mkB_data, mkB_data, mkB_data]
theorem dec_3 {v : Nat} (h : 100 ≤ v) (h2 : v < 1000) : Lib.decDigits v = [UInt8.ofNat (48 + v / 100), UInt8.ofNat (48 + v / 10 % 10), UInt8.ofNat (48 + v % 10)] := by
  rw [dec_ge (by omega), dec_ge (by omega), dec_lt (by omega)]
  rw [show v / 10 / 10 = v / 100 by omega]
  rfl
theorem dec_2 {v : Nat} (h : 10 ≤ v) (h2 : v < 100) : Lib.decDigits v = [UInt8.ofNat (48 + v / 10 % 10), UInt8.ofNat (48 + v % 10)] := by
  rw [dec_ge (by omega), dec_lt (by omega), show v / 10 % 10 = v / 10 by omega]
  rfl
/-- The first k numbers, dots between. -/
def textK (a : Nat) : Nat → List UInt8
  | 0 => []
  | k + 1 => textK a k ++ (if k = 0 then [] else [46]) ++ dN a k
theorem textK_all (a : Nat) : textK a 4 = textL a := by
  rw [textL_eq]
  simp [textK]
theorem textK_len (a : Nat) : ∀ k, (textK a k).length ≤ 4 * k
  | 0 => by simp [textK]
  | k + 1 => by
    have ih := textK_len a k
    have h : (dN a k).length ≤ 3 := (dec_len2 _ 2 (by have := byteN_lt a k; omega)).2
    unfold textK
    split <;> simp <;> omega
structure RT (w : World) (a k A : Nat) (S : ByteArray) (w' : World) : Prop where
  le : k ≤ 4
  num : A = a * 256 ^ k % 4294967296
  str : S = mkB (textK a k)
  be : Below w.heap.size w w'

theorem RT.next {w w' w'' : World} {a k A A2 v : Nat} {S S2 : ByteArray} (h : RT w a k A S w') (hk : k < 4) (hv : v = byteN a k) (hA : A2 = A % 16777216 * 256) (hS : S2 = mkB (textK a k ++ (if k = 0 then [] else [46]) ++ Lib.decDigits v)) (hb : Below w.heap.size w w'') : RT w a (k + 1) A2 S2 w'' := by
  refine ⟨hk, ?_, ?_, hb⟩
  · rw [hA, h.num, Nat.pow_succ, ← Nat.mul_assoc]
    generalize a * 256 ^ k = z
    omega
  · rw [hS, hv]; rfl
theorem byte_top (a k A : Nat) (hk : k < 4) (h : A = a * 256 ^ k % 4294967296) : A / 16777216 = byteN a k := by
  unfold byteN
  obtain rfl | rfl | rfl | rfl : k = 0 ∨ k = 1 ∨ k = 2 ∨ k = 3 := by omega
  · have e : 256 ^ (3 - 0) = 16777216 := rfl
    have e2 : 256 ^ 0 = 1 := rfl
    rw [e]; rw [e2] at h; omega
  · have e : 256 ^ (3 - 1) = 65536 := rfl
    have e2 : 256 ^ 1 = 256 := rfl
    rw [e]; rw [e2] at h; omega
  · have e : 256 ^ (3 - 2) = 256 := rfl
    have e2 : 256 ^ 2 = 65536 := rfl
    rw [e]; rw [e2] at h; omega
  · have e : 256 ^ (3 - 3) = 1 := rfl
    have e2 : 256 ^ 3 = 16777216 := rfl
    rw [e]; rw [e2] at h; omega
theorem str1 {x : Int} {y : Nat} (h : x = y) : strOfNums [x] = mkB [UInt8.ofNat y] := by rw [h, strOfNums_one]
section
variable {S : ByteArray} {l : List UInt8} {v : Nat}
theorem ok30 (h : S = mkB l) (hv : v < 256) : S ++ strOfNums [48 + (v : Int) / 100] ++ strOfNums [48 + (v : Int) / 10 % 10] ++ strOfNums [48 + (v : Int) % 10] = mkB (l ++ [] ++ [UInt8.ofNat (48 + v / 100), UInt8.ofNat (48 + v / 10 % 10), UInt8.ofNat (48 + v % 10)]) := by
  rw [h, str1 (y := 48 + v / 100) (by omega), str1 (y := 48 + v / 10 % 10) (by omega), str1 (y := 48 + v % 10) (by omega), mkB_append, mkB_append, mkB_append]
  try simp
theorem ok31 (h : S = mkB l) (hv : v < 256) : S ++ (⟨#[46]⟩ : ByteArray) ++ strOfNums [48 + (v : Int) / 100] ++ strOfNums [48 + (v : Int) / 10 % 10] ++ strOfNums [48 + (v : Int) % 10] = mkB (l ++ [46] ++ [UInt8.ofNat (48 + v / 100), UInt8.ofNat (48 + v / 10 % 10), UInt8.ofNat (48 + v % 10)]) := by
  rw [h, str1 (y := 48 + v / 100) (by omega), str1 (y := 48 + v / 10 % 10) (by omega), str1 (y := 48 + v % 10) (by omega), show (⟨#[46]⟩ : ByteArray) = mkB [46] from rfl, mkB_append, mkB_append, mkB_append, mkB_append]
  try simp
theorem ok20 (h : S = mkB l) (hv : v < 256) : S ++ strOfNums [48 + (v : Int) / 10 % 10] ++ strOfNums [48 + (v : Int) % 10] = mkB (l ++ [] ++ [UInt8.ofNat (48 + v / 10 % 10), UInt8.ofNat (48 + v % 10)]) := by
  rw [h, str1 (y := 48 + v / 10 % 10) (by omega), str1 (y := 48 + v % 10) (by omega), mkB_append, mkB_append]
  try simp
theorem ok21 (h : S = mkB l) (hv : v < 256) : S ++ (⟨#[46]⟩ : ByteArray) ++ strOfNums [48 + (v : Int) / 10 % 10] ++ strOfNums [48 + (v : Int) % 10] = mkB (l ++ [46] ++ [UInt8.ofNat (48 + v / 10 % 10), UInt8.ofNat (48 + v % 10)]) := by
  rw [h, str1 (y := 48 + v / 10 % 10) (by omega), str1 (y := 48 + v % 10) (by omega), show (⟨#[46]⟩ : ByteArray) = mkB [46] from rfl, mkB_append, mkB_append, mkB_append]
  try simp
theorem ok10 (h : S = mkB l) (hv : v < 256) : S ++ strOfNums [48 + (v : Int) % 10] = mkB (l ++ [] ++ [UInt8.ofNat (48 + v % 10)]) := by
  rw [h, str1 (y := 48 + v % 10) (by omega), mkB_append]
  try simp
theorem ok11 (h : S = mkB l) (hv : v < 256) : S ++ (⟨#[46]⟩ : ByteArray) ++ strOfNums [48 + (v : Int) % 10] = mkB (l ++ [46] ++ [UInt8.ofNat (48 + v % 10)]) := by
  rw [h, str1 (y := 48 + v % 10) (by omega), show (⟨#[46]⟩ : ByteArray) = mkB [46] from rfl, mkB_append, mkB_append]
  try simp
end
theorem size_add (a b : ByteArray) : (a ++ b).size = a.size + b.size := by
  rw [← Go.Proofs.YtgljkgkmbfhgiaaDoor.Plain.len_data, Go.Proofs.YtgljkgkmbfhgiaaDoor.Plain.append_data, List.length_append, Go.Proofs.YtgljkgkmbfhgiaaDoor.Plain.len_data, Go.Proofs.YtgljkgkmbfhgiaaDoor.Plain.len_data]

set_option maxHeartbeats 4000000 in
theorem reftext4_calls (a : Nat) (ha : a < 4294967296) (w : World) : Calls Tryd.prog 52 #[.int .u32 a] w fun e w' => e = .returned (.string (mkB (textL a))) ∧ Below w.heap.size w w' := by
  have hcv := one_str
  have hcv2 := one_str2
  have hcv3 := one_str3
  have HR0 := Lib.hid (show RT w a 0 a ⟨#[]⟩ w from ⟨by omega, by omega, rfl, Below.refl _ _⟩)
  go_enter Tryd.func52, Tryd.ntmps52
  go_wp2_with fail
  go_loopg [0, 3, 4] 4 (fun m v0 v3 v4 w' => Hid (∃ (k A : Nat) (S : ByteArray), v0 = .int .u32 A ∧ v3 = .string S ∧ v4 = .int .i64 k ∧ m = 4 - k ∧ RT w a k A S w'))
  case atStart => exact ⟨0, a, _, rfl, rfl, rfl, rfl, HR0.out⟩
  case round =>
    obtain ⟨k, A, S, rfl, rfl, rfl, hm, hT⟩ := hrel.out
    clear hrel HR0
    have HM := Lib.hid hm
    have HT := Lib.hid hT
    have hkle := hT.le
    clear hm hT
    by_cases hlt : k < 4
    · have hA : A < 4294967296 := by rw [HT.out.num]; omega
      have hS : S.size ≤ 16 := by rw [HT.out.str, mkB_size]; have := textK_len a k; omega
      have hv := byte_top a k A hlt HT.out.num
      obtain ⟨v, hv2⟩ : ∃ v, v = byteN a k := ⟨_, rfl⟩
      obtain ⟨A2, hA2⟩ : ∃ A2, A2 = A % 16777216 * 256 := ⟨_, rfl⟩
      have e1 : ((A : Int) / 16777216) = (v : Int) := by omega
      have e2 : ((A : Int) % 16777216 * 256) = (A2 : Int) := by omega
      have hvb : v < 256 := by rw [hv2]; exact byteN_lt a k
      have HV := Lib.hid (And.intro hv2 hA2)
      have hsz : ∀ x : Int, (strOfNums [x]).size = 1 := fun x => strOfNums_size [x]
      have hap := size_add
      clear hv hv2 hA2
      by_cases hk : k = 0
      · have hk0 : ¬ (0 : Int) < (k : Int) := by omega
        obtain h3 | h2 | h1 : 100 ≤ v ∨ (10 ≤ v ∧ v < 100) ∨ v < 10 := by omega
        · have hc1 : (100 : Int) ≤ (v : Int) := by omega
          have hc2 : (10 : Int) ≤ (v : Int) := by omega
          have HD := Lib.hid (show Lib.decDigits v = [UInt8.ofNat (48 + v / 100), UInt8.ofNat (48 + v / 10 % 10), UInt8.ofNat (48 + v % 10)] from dec_3 (by omega) (by omega))
          go_wp2_with fail
          go_roundg (4 - (k + 1))
          case measure => have := HM.out; omega
          case rel =>
            refine ⟨k + 1, A2, _, rfl, rfl, by go_num, rfl, HT.out.next (by omega) HV.out.1 HV.out.2 ?_ (((HT.out.be.alloc HT.out.be.size _).alloc (Nat.le_trans HT.out.be.size (by simp)) _).alloc (Nat.le_trans HT.out.be.size (by simp; omega)) _)⟩
            rw [HD.out, if_pos hk]
            exact ok30 HT.out.str (by omega)
        · have hc1 : (v : Int) < 100 := by omega
          have hc2 : (10 : Int) ≤ (v : Int) := by omega
          have HD := Lib.hid (show Lib.decDigits v = [UInt8.ofNat (48 + v / 10 % 10), UInt8.ofNat (48 + v % 10)] from dec_2 (by omega) (by omega))
          go_wp2_with fail
          go_roundg (4 - (k + 1))
          case measure => have := HM.out; omega
          case rel =>
            refine ⟨k + 1, A2, _, rfl, rfl, by go_num, rfl, HT.out.next (by omega) HV.out.1 HV.out.2 ?_ ((HT.out.be.alloc HT.out.be.size _).alloc (Nat.le_trans HT.out.be.size (by simp)) _)⟩
            rw [HD.out, if_pos hk]
            exact ok20 HT.out.str (by omega)
        · have hc1 : (v : Int) < 100 := by omega
          have hc2 : (v : Int) < 10 := by omega
          have HD := Lib.hid (show Lib.decDigits v = [UInt8.ofNat (48 + v % 10)] from (dec_lt (by omega)).trans (by rw [show 48 + v = 48 + v % 10 by omega]))
          go_wp2_with fail
          go_roundg (4 - (k + 1))
          case measure => have := HM.out; omega
          case rel =>
            refine ⟨k + 1, A2, _, rfl, rfl, by go_num, rfl, HT.out.next (by omega) HV.out.1 HV.out.2 ?_ (HT.out.be.alloc HT.out.be.size _)⟩
            rw [HD.out, if_pos hk]
            exact ok10 HT.out.str (by omega)
      · have hk0 : (0 : Int) < (k : Int) := by omega
        have h46 : (ByteArray.mk #[46]).size = 1 := rfl
        obtain h3 | h2 | h1 : 100 ≤ v ∨ (10 ≤ v ∧ v < 100) ∨ v < 10 := by omega
        · have hc1 : (100 : Int) ≤ (v : Int) := by omega
          have hc2 : (10 : Int) ≤ (v : Int) := by omega
          have HD := Lib.hid (show Lib.decDigits v = [UInt8.ofNat (48 + v / 100), UInt8.ofNat (48 + v / 10 % 10), UInt8.ofNat (48 + v % 10)] from dec_3 (by omega) (by omega))
          go_wp2_with fail
          go_roundg (4 - (k + 1))
          case measure => have := HM.out; omega
          case rel =>
            refine ⟨k + 1, A2, _, rfl, rfl, by go_num, rfl, HT.out.next (by omega) HV.out.1 HV.out.2 ?_ (((HT.out.be.alloc HT.out.be.size _).alloc (Nat.le_trans HT.out.be.size (by simp)) _).alloc (Nat.le_trans HT.out.be.size (by simp; omega)) _)⟩
            rw [HD.out, if_neg hk]
            exact ok31 HT.out.str (by omega)
        · have hc1 : (v : Int) < 100 := by omega
          have hc2 : (10 : Int) ≤ (v : Int) := by omega
          have HD := Lib.hid (show Lib.decDigits v = [UInt8.ofNat (48 + v / 10 % 10), UInt8.ofNat (48 + v % 10)] from dec_2 (by omega) (by omega))
          go_wp2_with fail
          go_roundg (4 - (k + 1))
          case measure => have := HM.out; omega
          case rel =>
            refine ⟨k + 1, A2, _, rfl, rfl, by go_num, rfl, HT.out.next (by omega) HV.out.1 HV.out.2 ?_ ((HT.out.be.alloc HT.out.be.size _).alloc (Nat.le_trans HT.out.be.size (by simp)) _)⟩
            rw [HD.out, if_neg hk]
            exact ok21 HT.out.str (by omega)
        · have hc1 : (v : Int) < 100 := by omega
          have hc2 : (v : Int) < 10 := by omega
          have HD := Lib.hid (show Lib.decDigits v = [UInt8.ofNat (48 + v % 10)] from (dec_lt (by omega)).trans (by rw [show 48 + v = 48 + v % 10 by omega]))
          go_wp2_with fail
          go_roundg (4 - (k + 1))
          case measure => have := HM.out; omega
          case rel =>
            refine ⟨k + 1, A2, _, rfl, rfl, by go_num, rfl, HT.out.next (by omega) HV.out.1 HV.out.2 ?_ (HT.out.be.alloc HT.out.be.size _)⟩
            rw [HD.out, if_neg hk]
            exact ok11 HT.out.str (by omega)
    · obtain rfl : k = 4 := by omega
      have HS := Lib.hid (show S = mkB (textL a) by rw [HT.out.str, textK_all])
      clear hcv hcv2 hcv3
      go_wp2_with fail
      go_ret
      exact ⟨by rw [← HS.out]; rfl, HT.out.be⟩
end Go.Proofs.YtgljkgkmbfhgiaaDoor
