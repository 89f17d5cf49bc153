/- RecordBare, walked. -/
import Derived.Test.YtgljkgkmbfhgiaaDoorRecAwake
set_option linter.unusedVariables false
set_option linter.unusedSimpArgs false
set_option maxRecDepth 100000
namespace Go.Proofs.YtgljkgkmbfhgiaaDoor
open Go.RowKit Four Six Rec

def withF (u : UrlV) (f : ByteArray) : UrlV := { u with hasf := true, frag := f }
def noF (u : UrlV) : UrlV := { u with hasf := false }
theorem withF_short {u : UrlV} (h : u.short) {f : ByteArray} (hf : f.size ≤ 100) : (withF u f).short := by
  have := (UrlV.few_iff u).2 h
  refine (UrlV.few_iff _).1 ?_
  unfold UrlV.few at this ⊢
  rw [Bool.and_eq_true] at this ⊢
  exact ⟨this.1, decide_eq_true hf⟩
theorem noF_short {u : UrlV} (h : u.short) : (noF u).short := (UrlV.few_iff _).1 ((UrlV.few_iff u).2 h)
theorem withF_ok {u : UrlV} (h : u.ok) (f : ByteArray) : (withF u f).ok := ⟨h.1, h.2, h.3⟩
theorem noF_ok {u : UrlV} (h : u.ok) : (noF u).ok := ⟨h.1, h.2, h.3⟩
theorem textU_split (u : UrlV) (bare : Bool) : textU u bare = textU u true ++ when (!bare && u.hasf) (35 :: u.frag.data.toList) := by
  cases bare <;> simp [textU, when]
theorem textU_true (u : UrlV) (f : ByteArray) : textU (withF u f) true = textU u true := rfl
theorem textU_no (u : UrlV) : textU (noF u) true = textU u true := rfl
theorem bare_text (u : UrlV) (f : ByteArray) : mkB (textU (withF u f) false) = mkB (textU u true) ++ (⟨#[35]⟩ : ByteArray) ++ f := by
  rw [textU_split, textU_true]
  generalize textU u true = l
  apply ByteArray.ext
  apply Array.ext'
  simp [withF, when, mkB, ByteArray.data_append]
theorem bare_text2 (u : UrlV) (f : ByteArray) : mkB (textU (withF u f) true) = mkB (textU u true) := by rw [textU_true]
theorem bare_text3 (u : UrlV) : mkB (textU (noF u) false) = mkB (textU u true) := by
  rw [textU_split, textU_no]
  simp [noF, when]
set_option maxHeartbeats 4000000 in
theorem bare_calls (u : UrlV) (A : Option Addr) (c : Nat) (f : ByteArray) (ho : u.ok) (w : World) (hF : FW w) (hr : RowAt textC 1 w A u.path) (hc : u.path.length ≤ c) (hm : c ≤ maxLen) :
    Calls Tryd.prog 6 #[.agg (u.cells A c).toArray, .string f] w fun e w' => e = .returned (.bool true) ∧ Below w.heap.size w w' := by
  have HF := Lib.hid hF
  have HFU := Lib.hid (fun (W : World) (hb : Below w.heap.size w W) => few_calls u A c W (hr.keep hb) hc hm)
  have HT0 := Lib.hid (fun (hs : u.short) (W : World) (hb : Below w.heap.size w W) => urltext_calls u A c true ho hs W (hF.keep hb) (hr.keep hb) hc)
  have HT1 := Lib.hid (fun (hs : u.short) (hf : f.size ≤ 100) (W : World) (hb : Below w.heap.size w W) => urltext_calls (withF u f) A c false (withF_ok ho f) (withF_short hs hf) W (hF.keep hb) (hr.keep hb) hc)
  have HT2 := Lib.hid (fun (hs : u.short) (hf : f.size ≤ 100) (W : World) (hb : Below w.heap.size w W) => urltext_calls (withF u f) A c true (withF_ok ho f) (withF_short hs hf) W (hF.keep hb) (hr.keep hb) hc)
  have HT3 := Lib.hid (fun (hs : u.short) (W : World) (hb : Below w.heap.size w W) => urltext_calls (noF u) A c false (noF_ok ho) (noF_short hs) W (hF.keep hb) (hr.keep hb) hc)
  have HLEN := Lib.hid (fun (hs : u.short) => textU_len hs ho true)
  obtain ⟨CU, hCU⟩ : ∃ CU, CU = (u.cells A c).toArray := ⟨_, rfl⟩
  have HV := Lib.hid (show ((withF u f).cells A c).toArray = (CU.setIfInBounds 19 (.bool true)).setIfInBounds 20 (.string f) by rw [hCU]; rfl)
  have HW := Lib.hid (show ((noF u).cells A c).toArray = CU.setIfInBounds 19 (.bool false) by rw [hCU]; rfl)
  have HUO := Lib.hid (show UrlOk CU by rw [hCU]; exact urlok u A c)
  have HC19 := Lib.hid (show CU[19]? = some (.bool u.hasf) by rw [hCU]; rfl)
  have HC20 := Lib.hid (show (CU.setIfInBounds 19 (.bool true))[20]? = some (.string u.frag) by rw [hCU]; rfl)
  have HSZ := Lib.hid HUO.out.1
  rw [← hCU] at HFU HT0 ⊢
  rw [HV.out] at HT1 HT2
  rw [HW.out] at HT3
  simp only [bare_text, bare_text2, bare_text3] at HT1 HT2 HT3
  clear hCU hr hc hm ho hF HV HW
  obtain ⟨F, hFF⟩ : ∃ F, F = u.few := ⟨_, rfl⟩
  rw [← hFF] at HFU
  have HFF := Lib.hid hFF
  clear hFF
  have HBIG := Lib.hid (show f.size ≤ 100 ∨ 100 < f.size by omega)
  go_enter Tryd.func6, Tryd.ntmps6
  go_upto_region 1 with fail
  have K0 := Lib.hid (Blk.new w 29 CU)
  have B0 := Lib.hid ((Below.refl w.heap.size w).alloc (Nat.le_refl _) (.cells CU 29))
  go_wp2_with fail
  refine (awake_calls (HF.out.keep B0.out)).mono ?_
  rintro e w1 ⟨rfl, hb⟩
  have K1 := Lib.hid (K0.out.keep hb)
  have B1 := Lib.hid (belowOn B0.out B0.out.size hb)
  clear hb K0 B0
  go_wp2_with (with_reducible refine stopLoad ?_)
  refine stopN_go ?_
  refine wpList_load_url (Blk.range K1.out) HSZ.out rfl _ rfl rfl ?_
  cases F
  · go_wp2_with fail
    refine (HFU.out _ B1.out).mono ?_
    rintro e w2 ⟨rfl, hb⟩
    have B2 := Lib.hid (belowOn B1.out B1.out.size hb)
    clear hb
    go_wp2_with fail
    go_ret
    exact ⟨rfl, B2.out⟩
  · rcases HBIG.out with hf | hf
    · have hf1 : ¬ (100 : Int) < (f.size : Int) := by omega
      have hs := (UrlV.few_iff u).1 HFF.out.symm
      obtain ⟨T, hT⟩ : ∃ T, T = mkB (textU u true) := ⟨_, rfl⟩
      have zT : T.size ≤ 3000 := by rw [hT, mkB_size]; exact HLEN.out hs
      have s1 : ∀ w, (Op.stringOp .add T ⟨#[35]⟩).run Tryd.prog w = .ok (.string (T ++ (⟨#[35]⟩ : ByteArray))) w := fun w => run_string_add_sum w _ _ (by rw [show (⟨#[35]⟩ : ByteArray).size = 1 from rfl]; omega)
      have s2 : ∀ w, (Op.stringOp .add (T ++ (⟨#[35]⟩ : ByteArray)) f).run Tryd.prog w = .ok (.string (T ++ (⟨#[35]⟩ : ByteArray) ++ f)) w := fun w => run_string_add_sum w _ _ (by rw [ByteArray.size_append, show (⟨#[35]⟩ : ByteArray).size = 1 from rfl]; omega)
      have G0 := Lib.hid (HT0.out hs)
      have G1 := Lib.hid (HT1.out hs hf)
      have G2 := Lib.hid (HT2.out hs hf)
      have G3 := Lib.hid (HT3.out hs)
      rw [← hT] at G0 G1 G2 G3
      have S1 := Lib.hid s1
      have S2 := Lib.hid s2
      clear HT0 HT1 HT2 HT3 HLEN HBIG HFF hs hT zT s1 s2 hf
      go_wp2_with fail
      refine (HFU.out _ B1.out).mono ?_
      rintro e w2 ⟨rfl, hb⟩
      have K2 := Lib.hid (K1.out.keep hb)
      have B2 := Lib.hid (belowOn B1.out B1.out.size hb)
      clear hb K1 B1 HFU
      go_wp2_with (with_reducible refine stopLoad ?_)
      refine stopN_go ?_
      refine wpList_load_url (Blk.range K2.out) HSZ.out rfl _ rfl rfl ?_
      obtain ⟨B, hB⟩ : ∃ B, B = w.heap.size := ⟨_, rfl⟩
      have HBB := Lib.hid (show B < w2.heap.size by have := K2.out.lt; omega)
      rw [← hB] at K2 ⊢
      obtain ⟨g, hg⟩ : ∃ g, g = w2.heap.size := ⟨_, rfl⟩
      have HG := Lib.hid (show w.heap.size ≤ g by rw [hg]; exact B2.out.size)
      have HBG := Lib.hid (show B < g by have := HBB.out; omega)
      have KZ := Lib.hid (show Blk (w2.alloc (.cells #[.string ⟨#[]⟩, .string ⟨#[]⟩, .string ⟨#[]⟩, .int .i64 0, .string ⟨#[]⟩, .int .u32 0, .int .u16 0, .int .u16 0, .int .u16 0, .int .u16 0, .int .u16 0, .int .u16 0, .int .u16 0, .int .u16 0, .int .i64 0, .bool false, .slice none 0 0, .bool false, .string ⟨#[]⟩, .bool false, .string ⟨#[]⟩] 29)) g 29 #[.string ⟨#[]⟩, .string ⟨#[]⟩, .string ⟨#[]⟩, .int .i64 0, .string ⟨#[]⟩, .int .u32 0, .int .u16 0, .int .u16 0, .int .u16 0, .int .u16 0, .int .u16 0, .int .u16 0, .int .u16 0, .int .u16 0, .int .i64 0, .bool false, .slice none 0 0, .bool false, .string ⟨#[]⟩, .bool false, .string ⟨#[]⟩] by rw [hg]; exact Blk.new w2 _ _)
      have B3 := Lib.hid (B2.out.alloc B2.out.size (.cells #[.string ⟨#[]⟩, .string ⟨#[]⟩, .string ⟨#[]⟩, .int .i64 0, .string ⟨#[]⟩, .int .u32 0, .int .u16 0, .int .u16 0, .int .u16 0, .int .u16 0, .int .u16 0, .int .u16 0, .int .u16 0, .int .u16 0, .int .i64 0, .bool false, .slice none 0 0, .bool false, .string ⟨#[]⟩, .bool false, .string ⟨#[]⟩] 29))
      have K3 := Lib.hid (K2.out.alloc (.cells #[.string ⟨#[]⟩, .string ⟨#[]⟩, .string ⟨#[]⟩, .int .i64 0, .string ⟨#[]⟩, .int .u32 0, .int .u16 0, .int .u16 0, .int .u16 0, .int .u16 0, .int .u16 0, .int .u16 0, .int .u16 0, .int .u16 0, .int .i64 0, .bool false, .slice none 0 0, .bool false, .string ⟨#[]⟩, .bool false, .string ⟨#[]⟩] 29))
      have Z3 := Lib.hid (show (w2.alloc (.cells #[.string ⟨#[]⟩, .string ⟨#[]⟩, .string ⟨#[]⟩, .int .i64 0, .string ⟨#[]⟩, .int .u32 0, .int .u16 0, .int .u16 0, .int .u16 0, .int .u16 0, .int .u16 0, .int .u16 0, .int .u16 0, .int .u16 0, .int .i64 0, .bool false, .slice none 0 0, .bool false, .string ⟨#[]⟩, .bool false, .string ⟨#[]⟩] 29)).heap.size = g + 1 by rw [hg]; simp)
      have HGE := Lib.hid hg
      clear hg HBB hB
      go_wp2_with (with_reducible refine stopN ?_)
      refine stopN_go ?_
      rw [← HGE.out]
      with_reducible (refine wpList_store_urlO KZ.out rfl HUO.out rfl _ _ rfl rfl rfl ?_)
      intro w3 k1 o1 z1 b1
      have V4 := Lib.hid k1
      have K4 := Lib.hid (show Blk w3 B 29 CU from (o1 B (by have := HBG.out; omega)).trans K3.out)
      have B4 := Lib.hid (b1 _ _ HG.out B3.out)
      have Z4 := Lib.hid (show w3.heap.size = g + 1 from z1.trans Z3.out)
      clear k1 o1 z1 b1 KZ B3 K3 Z3 HGE K2 B2
      go_upto_region 5 with fail
      have c19 : w3.cell? ⟨g, 19, none⟩ = some (.bool u.hasf) := (V4.out.cell 19).trans HC19.out
      have f19 : w3.frozen? ⟨g, 19, none⟩ = false := V4.out.frozen _
      go_upto_region 6 with fail
      have V5 := Lib.hid (V4.out.set_ 19 (.bool true))
      have K5 := Lib.hid (show Blk (w3.setCell ⟨g, 19, none⟩ (.bool true)) B 29 CU from K4.out.far (p := ⟨g, 19, none⟩) (by have := HBG.out; show B ≠ g; omega) _)
      have B5 := Lib.hid (B4.out.setCell (p := ⟨g, 19, none⟩) HG.out (.bool true))
      have Z5 := Lib.hid (show (w3.setCell ⟨g, 19, none⟩ (.bool true)).heap.size = g + 1 by rw [← Z4.out]; simp [World.setCell])
      obtain ⟨w4, hw4⟩ : ∃ W, W = w3.setCell ⟨g, 19, none⟩ (.bool true) := ⟨_, rfl⟩
      rw [← hw4] at V5 K5 B5 Z5 ⊢
      clear hw4 V4 K4 B4 Z4 c19 f19
      have c20 : w4.cell? ⟨g, 20, none⟩ = some (.string u.frag) := (V5.out.cell 20).trans HC20.out
      have f20 : w4.frozen? ⟨g, 20, none⟩ = false := V5.out.frozen _
      go_upto_region 7 with fail
      have V6 := Lib.hid (V5.out.set_ 20 (.string f))
      have K6 := Lib.hid (show Blk (w4.setCell ⟨g, 20, none⟩ (.string f)) B 29 CU from K5.out.far (p := ⟨g, 20, none⟩) (by have := HBG.out; show B ≠ g; omega) _)
      have B6 := Lib.hid (B5.out.setCell (p := ⟨g, 20, none⟩) HG.out (.string f))
      have Z6 := Lib.hid (show (w4.setCell ⟨g, 20, none⟩ (.string f)).heap.size = g + 1 by rw [← Z5.out]; simp [World.setCell])
      obtain ⟨w5, hw5⟩ : ∃ W, W = w4.setCell ⟨g, 20, none⟩ (.string f) := ⟨_, rfl⟩
      rw [← hw5] at V6 K6 B6 Z6 ⊢
      clear hw5 V5 K5 B5 Z5 c20 f20
      obtain ⟨CV, hCV⟩ : ∃ C, C = (CU.setIfInBounds 19 (.bool true)).setIfInBounds 20 (.string f) := ⟨_, rfl⟩
      have HSV := Lib.hid (show CV.size = 21 by rw [hCV]; simp [HSZ.out])
      rw [← hCV] at V6 G1 G2
      clear hCV HC20
      -- the second copy
      go_wp2_with (with_reducible refine stopLoad ?_)
      refine stopN_go ?_
      refine wpList_load_url (Blk.range K6.out) HSZ.out rfl _ rfl rfl ?_
      have KZ := Lib.hid (show Blk (w5.alloc (.cells #[.string ⟨#[]⟩, .string ⟨#[]⟩, .string ⟨#[]⟩, .int .i64 0, .string ⟨#[]⟩, .int .u32 0, .int .u16 0, .int .u16 0, .int .u16 0, .int .u16 0, .int .u16 0, .int .u16 0, .int .u16 0, .int .u16 0, .int .i64 0, .bool false, .slice none 0 0, .bool false, .string ⟨#[]⟩, .bool false, .string ⟨#[]⟩] 29)) (g + 1) 29 #[.string ⟨#[]⟩, .string ⟨#[]⟩, .string ⟨#[]⟩, .int .i64 0, .string ⟨#[]⟩, .int .u32 0, .int .u16 0, .int .u16 0, .int .u16 0, .int .u16 0, .int .u16 0, .int .u16 0, .int .u16 0, .int .u16 0, .int .i64 0, .bool false, .slice none 0 0, .bool false, .string ⟨#[]⟩, .bool false, .string ⟨#[]⟩] by rw [← Z6.out]; exact Blk.new w5 _ _)
      have B7 := Lib.hid (B6.out.alloc B6.out.size (.cells #[.string ⟨#[]⟩, .string ⟨#[]⟩, .string ⟨#[]⟩, .int .i64 0, .string ⟨#[]⟩, .int .u32 0, .int .u16 0, .int .u16 0, .int .u16 0, .int .u16 0, .int .u16 0, .int .u16 0, .int .u16 0, .int .u16 0, .int .i64 0, .bool false, .slice none 0 0, .bool false, .string ⟨#[]⟩, .bool false, .string ⟨#[]⟩] 29))
      have K7 := Lib.hid (K6.out.alloc (.cells #[.string ⟨#[]⟩, .string ⟨#[]⟩, .string ⟨#[]⟩, .int .i64 0, .string ⟨#[]⟩, .int .u32 0, .int .u16 0, .int .u16 0, .int .u16 0, .int .u16 0, .int .u16 0, .int .u16 0, .int .u16 0, .int .u16 0, .int .i64 0, .bool false, .slice none 0 0, .bool false, .string ⟨#[]⟩, .bool false, .string ⟨#[]⟩] 29))
      have V7 := Lib.hid (V6.out.alloc (.cells #[.string ⟨#[]⟩, .string ⟨#[]⟩, .string ⟨#[]⟩, .int .i64 0, .string ⟨#[]⟩, .int .u32 0, .int .u16 0, .int .u16 0, .int .u16 0, .int .u16 0, .int .u16 0, .int .u16 0, .int .u16 0, .int .u16 0, .int .i64 0, .bool false, .slice none 0 0, .bool false, .string ⟨#[]⟩, .bool false, .string ⟨#[]⟩] 29))
      go_wp2_with (with_reducible refine stopN ?_)
      refine stopN_go ?_
      rw [Z6.out]
      with_reducible (refine wpList_store_urlO KZ.out rfl HUO.out rfl _ _ rfl rfl rfl ?_)
      intro w6 k1 o1 z1 b1
      have X8 := Lib.hid k1
      have K8 := Lib.hid (show Blk w6 B 29 CU from (o1 B (by have := HBG.out; omega)).trans K7.out)
      have V8 := Lib.hid (show Blk w6 g 29 CV from (o1 g (by omega)).trans V7.out)
      have B8 := Lib.hid (b1 _ _ (by have := HG.out; omega) B7.out)
      clear k1 o1 z1 b1 KZ B7 K7 V7 K6 B6 V6 Z6
      go_upto_region 8 with fail
      have c19 : w6.cell? ⟨g + 1, 19, none⟩ = some (.bool u.hasf) := (X8.out.cell 19).trans HC19.out
      have f19 : w6.frozen? ⟨g + 1, 19, none⟩ = false := X8.out.frozen _
      go_upto_region 9 with fail
      have X9 := Lib.hid (X8.out.set_ 19 (.bool false))
      have K9 := Lib.hid (show Blk (w6.setCell ⟨g + 1, 19, none⟩ (.bool false)) B 29 CU from K8.out.far (p := ⟨g + 1, 19, none⟩) (by have := HBG.out; show B ≠ g + 1; omega) _)
      have V9 := Lib.hid (show Blk (w6.setCell ⟨g + 1, 19, none⟩ (.bool false)) g 29 CV from V8.out.far (p := ⟨g + 1, 19, none⟩) (by show g ≠ g + 1; omega) _)
      have B9 := Lib.hid (B8.out.setCell (p := ⟨g + 1, 19, none⟩) (by have := HG.out; show w.heap.size ≤ g + 1; omega) (.bool false))
      obtain ⟨w7, hw7⟩ : ∃ W, W = w6.setCell ⟨g + 1, 19, none⟩ (.bool false) := ⟨_, rfl⟩
      rw [← hw7] at V9 K9 X9 B9 ⊢
      clear hw7 V8 K8 B8 X8 c19 f19
      obtain ⟨CX, hCX⟩ : ∃ C, C = CU.setIfInBounds 19 (.bool false) := ⟨_, rfl⟩
      have HSX := Lib.hid (show CX.size = 21 by rw [hCX]; simp [HSZ.out])
      rw [← hCX] at X9 G3
      clear hCX HC19 HUO
      go_wp2_with (with_reducible refine stopLoad ?_)
      refine stopN_go ?_
      refine wpList_load_url (Blk.range K9.out) HSZ.out rfl _ rfl rfl ?_
      go_wp2_with fail
      refine (G0.out _ B9.out).mono ?_
      rintro e w8 ⟨rfl, hb⟩
      have X10 := Lib.hid (X9.out.keep hb)
      have V10 := Lib.hid (V9.out.keep hb)
      have B10 := Lib.hid (belowOn B9.out B9.out.size hb)
      clear hb X9 V9 K9 B9
      go_wp2_with (with_reducible refine stopLoad ?_)
      refine stopN_go ?_
      refine wpList_load_urlG (Blk.range V10.out) HSV.out _ rfl rfl (by kernel_rfl) ?_
      go_wp2_with fail
      refine (G1.out _ B10.out).mono ?_
      rintro e w9 ⟨rfl, hb⟩
      have X11 := Lib.hid (X10.out.keep hb)
      have V11 := Lib.hid (V10.out.keep hb)
      have B11 := Lib.hid (belowOn B10.out B10.out.size hb)
      clear hb X10 V10 B10
      have s1 := S1.out
      have s2 := S2.out
      go_wp2_with (with_reducible refine stopLoad ?_)
      refine stopN_go ?_
      refine wpList_load_urlG (Blk.range V11.out) HSV.out _ rfl rfl (by kernel_rfl) ?_
      go_wp2_with fail
      refine (G2.out _ B11.out).mono ?_
      rintro e w10 ⟨rfl, hb⟩
      have X12 := Lib.hid (X11.out.keep hb)
      have B12 := Lib.hid (belowOn B11.out B11.out.size hb)
      clear hb X11 V11 B11
      go_wp2_with (with_reducible refine stopLoad ?_)
      refine stopN_go ?_
      refine wpList_load_urlG (Blk.range X12.out) HSX.out _ rfl rfl (by kernel_rfl) ?_
      go_wp2_with fail
      refine (G3.out _ B12.out).mono ?_
      rintro e w11 ⟨rfl, hb⟩
      have B13 := Lib.hid (belowOn B12.out B12.out.size hb)
      clear hb
      go_wp2_with fail
      go_ret
      exact ⟨rfl, B13.out⟩
    · have hf1 : (100 : Int) < (f.size : Int) := by omega
      clear hf
      go_wp2_with fail
      refine (HFU.out _ B1.out).mono ?_
      rintro e w2 ⟨rfl, hb⟩
      have B2 := Lib.hid (belowOn B1.out B1.out.size hb)
      clear hb
      go_wp2_with fail
      go_ret
      exact ⟨rfl, B2.out⟩
end Go.Proofs.YtgljkgkmbfhgiaaDoor
