/- ipfour.Text. -/
import Derived.Test.YtcclghpoodbdcaaDoorFourParse
import Derived.Test.YtcclghpoodbdcaaDoorRowR
import Derived.Test.YtcclghpoodbdcaaDoorFourBack
set_option linter.unusedVariables false
set_option linter.unusedSimpArgs false
set_option maxRecDepth 100000
namespace Go.Proofs.YtcclghpoodbdcaaDoor
open Go.RowKit Four

theorem below_grow4 (w : World) (k : Nat) (os : Array Obj) : Below w.heap.size w (Go.Sort.grow (w.drewN k) os) :=
  ⟨rfl, rfl, rfl, by simp [Go.Sort.grow], fun i hi => by simp only [Go.Sort.grow]; exact Array.getElem?_append_left hi⟩
theorem itoa4_calls (n : Nat) {w : World} (hF : FW w) (hn : n ≤ 1000000) :
    Calls Tryd.prog 14 #[.int .i64 n] w fun e w' => e = .returned (.string (mkB (Lib.decDigits n))) ∧ Below w.heap.size w w' := by
  refine (Tryd.strconv_Itoa n (by omega) (by omega) w hF.tab).mono ?_
  rintro e w' ⟨rfl, k, os, rfl⟩
  exact ⟨by unfold mkB; rw [Lib.itoa_nonneg], below_grow4 _ k os⟩
def strC (l : List UInt8) : List Value := [.string (mkB l)]
theorem info_str4 : (Tryd.prog.info? 9).map (fun i => (i.zero, i.size, i.bytes)) = some (some (.string ⟨#[]⟩), 1, 16) := by kernel_rfl
structure TRel (w : World) (a k : Nat) (v : Value) (w' : World) : Prop where
  own : OwnR w' w.heap.size 9 1 strC v ((List.range k).map fun j => Lib.decDigits (byteN a j))
  be : Below w.heap.size w w'

theorem wraps_u32 (n : Int) (h₀ : 0 ≤ n) (h₁ : n < 2 ^ 32) : IntKind.u32.wrap n = n := by rw [IntKind.wrap_u32]; omega
theorem and255 (x : Nat) (hx : x < 4294967296) : wrap64 (bits .and .u32 (x : Int) 255) = ((x % 256 : Nat) : Int) := by
  have h := bits_mask .u32 32 (by decide) wraps_u32 8 (by decide) (x : Int) (by omega) (by omega)
  have e : ((2 : Int) ^ 8 - 1) = 255 := by decide
  rw [e] at h
  rw [h]
  unfold wrap64
  have e2 : ((2 : Int) ^ 8) = 256 := by decide
  rw [e2]
  omega
theorem rowAt_blk4 {α : Type} {f : α → List Value} {sz : Nat} (hf : ∀ x, (f x).length = sz) {w : World} {g : Nat} {t : TypeId} {cs : Array Value} {l : List α} (h : Blk w g t cs) (hc : cs.toList = l.flatMap f) : RowAt f sz w (some ⟨g, 0, none⟩) l := by
  intro i x hx
  refine ⟨g, 0, rfl, fun j u hu => ?_⟩
  have hj : j < sz := by rw [← hf x]; exact (List.getElem?_eq_some_iff.1 hu).1
  rw [h.cell, Nat.zero_add, ← Array.getElem?_toList, hc, flat_get hf l i j x hx hj]
  exact hu
theorem strRow_one (w : World) (t : TypeId) (x : List UInt8) : RowAt strC 1 (w.alloc (.cells #[.string (mkB x)] t)) (some ⟨w.heap.size, 0, none⟩) [x] :=
  rowAt_blk4 (f := strC) (fun _ => rfl) (Blk.new w t _) rfl
theorem TRel.next {w w1 w2 w5 : World} {a k : Nat} {v v' : Value} (h : TRel w a k v w1) (hb : Below w1.heap.size w1 w2)
    (ho : OwnR w5 w.heap.size 9 1 strC v' (((List.range k).map fun j => Lib.decDigits (byteN a j)) ++ [Lib.decDigits (byteN a k)])) (hg : (w2.alloc (.cells #[.string (mkB (Lib.decDigits (byteN a k)))] 9)).grownBy w5 v.ownBlock) : TRel w a (k + 1) v' w5 := by
  have hk : Below w1.heap.size w1 (w2.alloc (.cells #[.string (mkB (Lib.decDigits (byteN a k)))] 9)) := hb.alloc hb.size _
  have hown : ∀ g, v.ownBlock = some g → w.heap.size ≤ g ∧ ∃ cur, Blk w1 g 9 cur := fun g e => row_blk h.own e
  exact ⟨by rw [List.range_succ, List.map_append]; exact ho, (belowOn h.be h.be.size hk).grown hg (Nat.le_trans h.be.size hk.size) (fun k e => (hown k e).1)⟩

theorem text_short (a : Nat) : (Lib.join ((((List.range 4).map fun j => Lib.decDigits (byteN a j)).map mkB).map (·.data.toList)) (ByteArray.mk #[46]).data.toList).length ≤ 140737488355328 := by
  have e : ((((List.range 4).map fun j => Lib.decDigits (byteN a j)).map mkB).map (·.data.toList)) = (List.range 4).map fun k => Lib.decDigits (byteN a k) := by
    rw [List.map_map]
    conv => rhs; rw [← List.map_id ((List.range 4).map fun k => Lib.decDigits (byteN a k))]
    exact List.map_congr_left fun l _ => mkB_data l
  rw [e]
  have h : (textL a).length ≤ 15 := (text_len a).2
  have h2 : (Lib.join ((List.range 4).map fun k => Lib.decDigits (byteN a k)) (ByteArray.mk #[46]).data.toList).length ≤ 15 := h
  omega

set_option maxHeartbeats 4000000 in
theorem text_calls (a : Nat) (ha : a < 4294967296) {w : World} (hF : FW w) :
    Calls Tryd.prog 8 #[.int .u32 a] w fun e w' => e = .returned (.string (mkB (textL a))) ∧ Below w.heap.size w w' := by
  have HR0 := Lib.hid (show TRel w a 0 (.slice none 0 0) w from ⟨OwnR.nil _ _ _ _ _, Below.refl _ _⟩)
  have HF := Lib.hid hF
  clear hF
  go_enter Tryd.func8, Tryd.ntmps8
  go_wp2_with fail
  go_loopg [4, 3] 4 (fun m v4 v3 w' => Hid (∃ (k : Nat), k ≤ 4 ∧ v4 = .int .i64 (24 - 8 * (k : Int)) ∧ m = 4 - k ∧ TRel w a k v3 w'))
  case atStart => exact ⟨0, by omega, rfl, rfl, HR0.out⟩
  case round =>
    obtain ⟨k, hk, rfl, hm, hT⟩ := hrel.out
    clear hrel HR0
    have HM := Lib.hid hm
    have HT := Lib.hid hT
    clear hm hT
    by_cases hlt : k < 4
    · have HI := Lib.hid (itoa4_calls (byteN a k) (HF.out.keep HT.out.be) (by unfold byteN; omega))
      obtain rfl | rfl | rfl | rfl : k = 0 ∨ k = 1 ∨ k = 2 ∨ k = 3 := by omega
      · go_wp2_with fail
        rw [show wrap64 (bits .and .u32 ((a : Int) / 16777216) 255) = ((byteN a 0 : Nat) : Int) from by
          rw [show ((a : Int) / 16777216) = ((a / 16777216 : Nat) : Int) by omega]; exact and255 _ (by omega)]
        refine HI.out.mono ?_
        rintro e w2 ⟨rfl, hb2⟩
        have HB2 := Lib.hid hb2
        clear hb2 HI
        go_wp2_with (at_builtin; refine stop_here ?_)
        refine stop_go ?_
        refine wpList_appendR strC 1 (fun _ => rfl) (by omega) (fun x u hu => by simp [strC] at hu; subst hu; rfl) rfl (.tmp 9) (.tmp 16) _ 9 _ 16 rfl Tryd.underlying34 info_str4 rfl (by omega) w.heap.size u3 _ (some ⟨w2.heap.size, 0, none⟩) 1 [Lib.decDigits (byteN a 0)] rfl rfl (HT.out.own.below (HB2.out.alloc HB2.out.size _)) (strRow_one _ _ _) (by simp) (by have := HT.out.be.size; have := HB2.out.size; simp; omega) ?_
        intro v' w5 ho hg _
        have HN := Lib.hid (HT.out.next HB2.out ho hg)
        clear ho hg
        go_wp2_with fail
        go_roundg (4 - (0 + 1))
        case measure => have := HM.out; omega
        case rel => exact ⟨0 + 1, by omega, by first | rfl | go_num, rfl, HN.out⟩
      · go_wp2_with fail
        rw [show wrap64 (bits .and .u32 ((a : Int) / 65536) 255) = ((byteN a 1 : Nat) : Int) from by
          rw [show ((a : Int) / 65536) = ((a / 65536 : Nat) : Int) by omega]; exact and255 _ (by omega)]
        refine HI.out.mono ?_
        rintro e w2 ⟨rfl, hb2⟩
        have HB2 := Lib.hid hb2
        clear hb2 HI
        go_wp2_with (at_builtin; refine stop_here ?_)
        refine stop_go ?_
        refine wpList_appendR strC 1 (fun _ => rfl) (by omega) (fun x u hu => by simp [strC] at hu; subst hu; rfl) rfl (.tmp 9) (.tmp 16) _ 9 _ 16 rfl Tryd.underlying34 info_str4 rfl (by omega) w.heap.size u3 _ (some ⟨w2.heap.size, 0, none⟩) 1 [Lib.decDigits (byteN a 1)] rfl rfl (HT.out.own.below (HB2.out.alloc HB2.out.size _)) (strRow_one _ _ _) (by simp) (by have := HT.out.be.size; have := HB2.out.size; simp; omega) ?_
        intro v' w5 ho hg _
        have HN := Lib.hid (HT.out.next HB2.out ho hg)
        clear ho hg
        go_wp2_with fail
        go_roundg (4 - (1 + 1))
        case measure => have := HM.out; omega
        case rel => exact ⟨1 + 1, by omega, by first | rfl | go_num, rfl, HN.out⟩
      · go_wp2_with fail
        rw [show wrap64 (bits .and .u32 ((a : Int) / 256) 255) = ((byteN a 2 : Nat) : Int) from by
          rw [show ((a : Int) / 256) = ((a / 256 : Nat) : Int) by omega]; exact and255 _ (by omega)]
        refine HI.out.mono ?_
        rintro e w2 ⟨rfl, hb2⟩
        have HB2 := Lib.hid hb2
        clear hb2 HI
        go_wp2_with (at_builtin; refine stop_here ?_)
        refine stop_go ?_
        refine wpList_appendR strC 1 (fun _ => rfl) (by omega) (fun x u hu => by simp [strC] at hu; subst hu; rfl) rfl (.tmp 9) (.tmp 16) _ 9 _ 16 rfl Tryd.underlying34 info_str4 rfl (by omega) w.heap.size u3 _ (some ⟨w2.heap.size, 0, none⟩) 1 [Lib.decDigits (byteN a 2)] rfl rfl (HT.out.own.below (HB2.out.alloc HB2.out.size _)) (strRow_one _ _ _) (by simp) (by have := HT.out.be.size; have := HB2.out.size; simp; omega) ?_
        intro v' w5 ho hg _
        have HN := Lib.hid (HT.out.next HB2.out ho hg)
        clear ho hg
        go_wp2_with fail
        go_roundg (4 - (2 + 1))
        case measure => have := HM.out; omega
        case rel => exact ⟨2 + 1, by omega, by first | rfl | go_num, rfl, HN.out⟩
      · go_wp2_with fail
        rw [show wrap64 (bits .and .u32 (a : Int) 255) = ((byteN a 3 : Nat) : Int) from by
          unfold byteN; rw [show 256 ^ (3 - 3) = 1 by rfl, Nat.div_one]; exact and255 _ (by omega)]
        refine HI.out.mono ?_
        rintro e w2 ⟨rfl, hb2⟩
        have HB2 := Lib.hid hb2
        clear hb2 HI
        go_wp2_with (at_builtin; refine stop_here ?_)
        refine stop_go ?_
        refine wpList_appendR strC 1 (fun _ => rfl) (by omega) (fun x u hu => by simp [strC] at hu; subst hu; rfl) rfl (.tmp 9) (.tmp 16) _ 9 _ 16 rfl Tryd.underlying34 info_str4 rfl (by omega) w.heap.size u3 _ (some ⟨w2.heap.size, 0, none⟩) 1 [Lib.decDigits (byteN a 3)] rfl rfl (HT.out.own.below (HB2.out.alloc HB2.out.size _)) (strRow_one _ _ _) (by simp) (by have := HT.out.be.size; have := HB2.out.size; simp; omega) ?_
        intro v' w5 ho hg _
        have HN := Lib.hid (HT.out.next HB2.out ho hg)
        clear ho hg
        go_wp2_with fail
        go_roundg (4 - (3 + 1))
        case measure => have := HM.out; omega
        case rel => exact ⟨3 + 1, by omega, by first | rfl | go_num, rfl, HN.out⟩
    · obtain rfl : k = 4 := by omega
      have ho := HT.out.own
      obtain ⟨A, c, hv, hrow, hc, hcm, hA⟩ := ho.row (fun _ => rfl)
      obtain ⟨b, off, rfl, h0⟩ := hrow 0 _ rfl
      obtain ⟨_, _, rfl⟩ := hA b off rfl
      have HJ := Lib.hid (fun (W : World) (hW : W = wr) => Tryd.strings_Join b 0 c (((List.range 4).map fun j => Lib.decDigits (byteN a j)).map mkB) ⟨#[46]⟩ W (fun j x hx => by
        rw [List.getElem?_map] at hx
        obtain ⟨y, hy, rfl⟩ := Option.map_eq_some_iff.1 hx
        obtain ⟨b', off', e, hcell⟩ := hrow j y hy
        cases e
        have := hcell 0 _ rfl
        rw [hW]
        simpa using this) (by rw [hW]; exact World.block_lt_of_cell? _ _ (h0 0 _ rfl)) (by simp) (by simpa using hc) (text_short a))
      have e : ((((List.range 4).map fun j => Lib.decDigits (byteN a j)).map mkB).map (·.data.toList)) = (List.range 4).map fun k => Lib.decDigits (byteN a k) := by
        rw [List.map_map]
        conv => rhs; rw [← List.map_id ((List.range 4).map fun k => Lib.decDigits (byteN a k))]
        exact List.map_congr_left fun l _ => mkB_data l
      rw [e] at HJ
      rw [show (((List.range 4).map fun j => Lib.decDigits (byteN a j)).map mkB).length = 4 from rfl] at HJ
      have hv2 : u3 = .slice (some ⟨b, 0, none⟩) 4 c := hv
      have HB := Lib.hid HT.out.be
      clear h0 hrow hA ho hv e
      subst hv2
      go_wp2_with (go_at_call 15; refine (HJ.out _ rfl).mono ?_; rintro e w2 ⟨rfl, hb2⟩; have HB2 := Lib.hid (belowOn HB.out HB.out.size hb2); clear hb2)
      go_ret
      exact ⟨rfl, HB2.out⟩
end Go.Proofs.YtcclghpoodbdcaaDoor
