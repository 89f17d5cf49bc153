/- The law's awake. -/
import Derived.Test.YtgljkgkmbfhgiaaDoorRecAwPure
import Derived.Test.YtgljkgkmbfhgiaaDoorRecSt
import Derived.Test.YtgljkgkmbfhgiaaDoorRecFew
import Derived.Test.YtgljkgkmbfhgiaaDoorRecSame
set_option linter.unusedVariables false
set_option linter.unusedSimpArgs false
set_option maxRecDepth 100000
namespace Go.Proofs.YtgljkgkmbfhgiaaDoor
open Go.RowKit Four Six Rec

theorem info_host : (Tryd.prog.info? 26).map (·.size) = some 11 := by kernel_rfl
def zeroHost (k : Int) (nm : ByteArray) : Array Value := #[.int .i64 k, .string nm, .int .u32 0, .int .u16 0, .int .u16 0, .int .u16 0, .int .u16 0, .int .u16 0, .int .u16 0, .int .u16 0, .int .u16 0]
theorem awpath_calls (w : World) : Calls Tryd.prog 17 #[.agg #[.string ⟨#[]⟩, .string ⟨#[]⟩, .string ⟨#[]⟩, .int .i64 0, .string ⟨#[]⟩, .int .u32 0, .int .u16 0, .int .u16 0, .int .u16 0, .int .u16 0, .int .u16 0, .int .u16 0, .int .u16 0, .int .u16 0, .int .i64 0, .bool true, .slice (some ⟨w.heap.size, 0, none⟩) 1 1, .bool false, .string ⟨#[]⟩, .bool false, .string ⟨#[]⟩]] (w.alloc (.cells #[.string ⟨#[113]⟩] 9)) fun e w' => e = .returned (.string ⟨#[113]⟩) ∧ Below w.heap.size w w' := by
  have := pathU_calls awQ (some ⟨w.heap.size, 0, none⟩) 1 aw_short.2.2 _ (row_new w [⟨#[113]⟩] 9) (by decide)
  rw [aw_path] at this
  refine this.mono ?_
  rintro e w' ⟨h1, h2⟩
  exact ⟨h1, belowOn ((Below.refl _ _).alloc (Nat.le_refl _) _) (by simp) h2⟩
set_option maxHeartbeats 4000000 in
theorem awake_calls {w : World} (hF : FW w) : Calls Tryd.prog 13 #[] w fun e w' => e = .returned (.bool true) ∧ Below w.heap.size w w' := by
  have HF := Lib.hid hF
  clear hF
  obtain ⟨CS, hCS⟩ : ∃ CS, CS = ((newV ⟨#[104, 116, 116, 112]⟩).cells none 0).toArray := ⟨_, rfl⟩
  have HU := Lib.hid (show UrlOk CS by rw [hCS]; exact urlok (newV ⟨#[104, 116, 116, 112]⟩) none 0)
  have HN := Lib.hid (fun W => new_url ⟨#[104, 116, 116, 112]⟩ W)
  rw [← hCS] at HN
  have HCS := Lib.hid hCS
  clear hCS
  go_enter Tryd.func13, Tryd.ntmps13
  go_wp2_with fail
  refine (HN.out _).mono ?_
  rintro e w1 ⟨rfl, hb⟩
  have H1 := Lib.hid hb
  have HF1 := Lib.hid (HF.out.keep hb)
  clear hb HN
  have HZ := Lib.hid (show Blk (w1.alloc (.cells #[.string ⟨#[]⟩, .string ⟨#[]⟩, .string ⟨#[]⟩, .int .i64 0, .string ⟨#[]⟩, .int .u32 0, .int .u16 0, .int .u16 0, .int .u16 0, .int .u16 0, .int .u16 0, .int .u16 0, .int .u16 0, .int .u16 0, .int .i64 0, .bool false, .slice none 0 0, .bool false, .string ⟨#[]⟩, .bool false, .string ⟨#[]⟩] 29)) w1.heap.size 29 #[.string ⟨#[]⟩, .string ⟨#[]⟩, .string ⟨#[]⟩, .int .i64 0, .string ⟨#[]⟩, .int .u32 0, .int .u16 0, .int .u16 0, .int .u16 0, .int .u16 0, .int .u16 0, .int .u16 0, .int .u16 0, .int .u16 0, .int .i64 0, .bool false, .slice none 0 0, .bool false, .string ⟨#[]⟩, .bool false, .string ⟨#[]⟩] from Blk.new w1 _ _)
  obtain ⟨g, hg⟩ : ∃ g, g = w1.heap.size := ⟨_, rfl⟩
  rw [← hg] at HZ
  have HB0 := Lib.hid (show Below w.heap.size w (w1.alloc (.cells #[.string ⟨#[]⟩, .string ⟨#[]⟩, .string ⟨#[]⟩, .int .i64 0, .string ⟨#[]⟩, .int .u32 0, .int .u16 0, .int .u16 0, .int .u16 0, .int .u16 0, .int .u16 0, .int .u16 0, .int .u16 0, .int .u16 0, .int .i64 0, .bool false, .slice none 0 0, .bool false, .string ⟨#[]⟩, .bool false, .string ⟨#[]⟩] 29)) from H1.out.alloc H1.out.size _)
  have HG := Lib.hid (show w.heap.size ≤ g by rw [hg]; exact H1.out.size)
  have HGG := Lib.hid (show g + 1 = (w1.alloc (.cells #[.string ⟨#[]⟩, .string ⟨#[]⟩, .string ⟨#[]⟩, .int .i64 0, .string ⟨#[]⟩, .int .u32 0, .int .u16 0, .int .u16 0, .int .u16 0, .int .u16 0, .int .u16 0, .int .u16 0, .int .u16 0, .int .u16 0, .int .i64 0, .bool false, .slice none 0 0, .bool false, .string ⟨#[]⟩, .bool false, .string ⟨#[]⟩] 29)).heap.size by rw [hg]; simp)
  go_upto_region 2 with (rw [← hg]; with_reducible (refine wpList_store_urlO HZ.out rfl HU.out rfl _ _ rfl rfl rfl ?_); intro W1 k1 o1 z1 b1; have K1 := Lib.hid k1; have B1 := Lib.hid (b1 _ _ HG.out HB0.out); have HG1 := Lib.hid (HGG.out.trans z1.symm); clear k1 o1 z1 b1 HB0 HGG HZ)
  clear hg
  have HH := Lib.hid (show 3 + (#[.int .i64 2, .string ⟨#[97]⟩, .int .u32 0, .int .u16 0, .int .u16 0, .int .u16 0, .int .u16 0, .int .u16 0, .int .u16 0, .int .u16 0, .int .u16 0] : Array Value).size ≤ CS.size by rw [HU.out.1]; decide)
  have HO := Lib.hid (show (#[.int .i64 2, .string ⟨#[97]⟩, .int .u32 0, .int .u16 0, .int .u16 0, .int .u16 0, .int .u16 0, .int .u16 0, .int .u16 0, .int .u16 0, .int .u16 0] : Array Value).all (·.oneCell') = true by simp [Value.oneCell'])
  go_upto_region 3 with (with_reducible (refine wpList_store_row (us := #[.int .i64 2, .string ⟨#[97]⟩, .int .u32 0, .int .u16 0, .int .u16 0, .int .u16 0, .int .u16 0, .int .u16 0, .int .u16 0, .int .u16 0, .int .u16 0]) K1.out HH.out info_host HO.out rfl _ _ rfl rfl rfl ?_); intro W2 k1 o1 z1 b1; have K2 := Lib.hid k1; have B2 := Lib.hid (b1 _ _ HG.out B1.out); have HG2 := Lib.hid (HG1.out.trans z1.symm); clear k1 o1 z1 b1 B1 HG1 K1)
  obtain ⟨C2, hC2⟩ : ∃ C2, C2 = setL CS 3 (#[.int .i64 2, .string ⟨#[97]⟩, .int .u32 0, .int .u16 0, .int .u16 0, .int .u16 0, .int .u16 0, .int .u16 0, .int .u16 0, .int .u16 0, .int .u16 0] : Array Value).toList := ⟨_, rfl⟩
  rw [← hC2] at K2
  have HC2 := Lib.hid (show C2 = #[.string ⟨#[104, 116, 116, 112]⟩, .string ⟨#[]⟩, .string ⟨#[]⟩, .int .i64 2, .string ⟨#[97]⟩, .int .u32 0, .int .u16 0, .int .u16 0, .int .u16 0, .int .u16 0, .int .u16 0, .int .u16 0, .int .u16 0, .int .u16 0, .int .i64 (-1), .bool false, .slice none 0 0, .bool false, .string ⟨#[]⟩, .bool false, .string ⟨#[]⟩] by rw [hC2, HCS.out]; rfl)
  clear hC2 HH HO
  have c14 : W2.cell? ⟨g, 14, none⟩ = some (.int .i64 (-1)) := by rw [K2.out.cell, HC2.out]; rfl
  have f14 : W2.frozen? ⟨g, 14, none⟩ = false := K2.out.frozen _
  go_upto_region 4 with fail
  have K3 := Lib.hid (K2.out.set_ 14 (.int .i64 8080))
  have B3 := Lib.hid (B2.out.setCell (p := ⟨g, 14, none⟩) HG.out (.int .i64 8080))
  have HG3 := Lib.hid (show g + 1 = (W2.setCell ⟨g, 14, none⟩ (.int .i64 8080)).heap.size by rw [HG2.out]; simp [World.setCell])
  obtain ⟨W3, hW3⟩ : ∃ W, W = W2.setCell ⟨g, 14, none⟩ (.int .i64 8080) := ⟨_, rfl⟩
  rw [← hW3] at K3 B3 HG3 ⊢
  clear hW3 K2 B2 HG2 c14 f14
  have c16 : ∀ o, (W3.alloc o).cell? ⟨g, 16, none⟩ = some (.slice none 0 0) := fun o => by rw [(K3.out.alloc o).cell, HC2.out]; rfl
  have f16 : ∀ o, (W3.alloc o).frozen? ⟨g, 16, none⟩ = false := fun o => (K3.out.alloc o).frozen _
  go_upto_region 5 with fail
  have R4 := Lib.hid ((row_new W3 [⟨#[120]⟩] 9).moved (w' := (W3.alloc (.cells #[.string ⟨#[120]⟩] 9)).setCell ⟨g, 16, none⟩ (.slice (some ⟨W3.heap.size, 0, none⟩) 1 1)) (Below.heap_setCell _ _ _ _ (by have := HG3.out; show W3.heap.size ≠ g; omega)))
  have K4 := Lib.hid ((K3.out.alloc (.cells #[.string ⟨#[120]⟩] 9)).set_ 16 (.slice (some ⟨W3.heap.size, 0, none⟩) 1 1))
  have B4 := Lib.hid ((B3.out.alloc B3.out.size (.cells #[.string ⟨#[120]⟩] 9)).setCell (p := ⟨g, 16, none⟩) HG.out (.slice (some ⟨W3.heap.size, 0, none⟩) 1 1))
  have HG4 := Lib.hid (show g + 2 = ((W3.alloc (.cells #[.string ⟨#[120]⟩] 9)).setCell ⟨g, 16, none⟩ (.slice (some ⟨W3.heap.size, 0, none⟩) 1 1)).heap.size by have := HG3.out; simp [World.setCell]; omega)
  obtain ⟨W4, hW4⟩ : ∃ W, W = (W3.alloc (.cells #[.string ⟨#[120]⟩] 9)).setCell ⟨g, 16, none⟩ (.slice (some ⟨W3.heap.size, 0, none⟩) 1 1) := ⟨_, rfl⟩
  rw [← hW4] at R4 K4 B4 HG4 ⊢
  clear hW4
  have HGE3 := Lib.hid (show W3.heap.size = g + 1 from HG3.out.symm)
  rw [HGE3.out] at R4 K4 ⊢
  clear HGE3 HG3 B3 K3 c16 f16
  have c19 : W4.cell? ⟨g, 19, none⟩ = some (.bool false) := by rw [K4.out.cell, HC2.out]; rfl
  have f19 : W4.frozen? ⟨g, 19, none⟩ = false := K4.out.frozen _
  go_upto_region 6 with fail
  have K5 := Lib.hid (K4.out.set_ 19 (.bool true))
  have R5 := Lib.hid (R4.out.moved (w' := W4.setCell ⟨g, 19, none⟩ (.bool true)) (Below.heap_setCell _ _ _ _ (by show g + 1 ≠ g; omega)))
  have B5 := Lib.hid (B4.out.setCell (p := ⟨g, 19, none⟩) HG.out (.bool true))
  have HG5 := Lib.hid (show g + 2 = (W4.setCell ⟨g, 19, none⟩ (.bool true)).heap.size by rw [HG4.out]; simp [World.setCell])
  obtain ⟨W5, hW5⟩ : ∃ W, W = W4.setCell ⟨g, 19, none⟩ (.bool true) := ⟨_, rfl⟩
  rw [← hW5] at R5 K5 B5 HG5 ⊢
  clear hW5 K4 R4 B4 HG4 c19 f19
  obtain ⟨CU, hCU⟩ : ∃ CU, CU = ((C2.setIfInBounds 14 (.int .i64 8080)).setIfInBounds 16 (.slice (some ⟨g + 1, 0, none⟩) 1 1)).setIfInBounds 19 (.bool true) := ⟨_, rfl⟩
  rw [← hCU] at K5
  have HCU := Lib.hid (show CU = (awU.cells (some ⟨g + 1, 0, none⟩) 1).toArray by rw [hCU, HC2.out]; rfl)
  clear hCU HC2 HCS HU
  go_upto_region 7 with (with_reducible refine stopN ?_)
  refine stopN_go ?_
  rw [← HG5.out]
  have R6 := Lib.hid (show RowAt textC 1 ((W5.alloc (.cells #[.string ⟨#[]⟩, .string ⟨#[122]⟩] 9)).alloc (.cells #[.string ⟨#[]⟩, .string ⟨#[]⟩, .string ⟨#[]⟩, .int .i64 0, .string ⟨#[]⟩, .int .u32 0, .int .u16 0, .int .u16 0, .int .u16 0, .int .u16 0, .int .u16 0, .int .u16 0, .int .u16 0, .int .u16 0, .int .i64 0, .bool false, .slice none 0 0, .bool false, .string ⟨#[]⟩, .bool false, .string ⟨#[]⟩] 29)) (some ⟨g + 1, 0, none⟩) [⟨#[120]⟩] from R5.out.keep (((Below.refl _ _).alloc (Nat.le_refl _) _).alloc (by simp) _))
  have V6 := Lib.hid (show RowAt textC 1 ((W5.alloc (.cells #[.string ⟨#[]⟩, .string ⟨#[122]⟩] 9)).alloc (.cells #[.string ⟨#[]⟩, .string ⟨#[]⟩, .string ⟨#[]⟩, .int .i64 0, .string ⟨#[]⟩, .int .u32 0, .int .u16 0, .int .u16 0, .int .u16 0, .int .u16 0, .int .u16 0, .int .u16 0, .int .u16 0, .int .u16 0, .int .i64 0, .bool false, .slice none 0 0, .bool false, .string ⟨#[]⟩, .bool false, .string ⟨#[]⟩] 29)) (some ⟨g + 2, 0, none⟩) [⟨#[]⟩, ⟨#[122]⟩] by rw [HG5.out]; exact (row_new W5 [⟨#[]⟩, ⟨#[122]⟩] 9).keep ((Below.refl _ _).alloc (Nat.le_refl _) _))
  have K6 := Lib.hid ((K5.out.alloc (.cells #[.string ⟨#[]⟩, .string ⟨#[122]⟩] 9)).alloc (.cells #[.string ⟨#[]⟩, .string ⟨#[]⟩, .string ⟨#[]⟩, .int .i64 0, .string ⟨#[]⟩, .int .u32 0, .int .u16 0, .int .u16 0, .int .u16 0, .int .u16 0, .int .u16 0, .int .u16 0, .int .u16 0, .int .u16 0, .int .i64 0, .bool false, .slice none 0 0, .bool false, .string ⟨#[]⟩, .bool false, .string ⟨#[]⟩] 29))
  have B6 := Lib.hid ((B5.out.alloc B5.out.size (.cells #[.string ⟨#[]⟩, .string ⟨#[122]⟩] 9)).alloc (by have := B5.out.size; simp; omega) (.cells #[.string ⟨#[]⟩, .string ⟨#[]⟩, .string ⟨#[]⟩, .int .i64 0, .string ⟨#[]⟩, .int .u32 0, .int .u16 0, .int .u16 0, .int .u16 0, .int .u16 0, .int .u16 0, .int .u16 0, .int .u16 0, .int .u16 0, .int .i64 0, .bool false, .slice none 0 0, .bool false, .string ⟨#[]⟩, .bool false, .string ⟨#[]⟩] 29))
  have HG6 := Lib.hid (show g + 4 = ((W5.alloc (.cells #[.string ⟨#[]⟩, .string ⟨#[122]⟩] 9)).alloc (.cells #[.string ⟨#[]⟩, .string ⟨#[]⟩, .string ⟨#[]⟩, .int .i64 0, .string ⟨#[]⟩, .int .u32 0, .int .u16 0, .int .u16 0, .int .u16 0, .int .u16 0, .int .u16 0, .int .u16 0, .int .u16 0, .int .u16 0, .int .i64 0, .bool false, .slice none 0 0, .bool false, .string ⟨#[]⟩, .bool false, .string ⟨#[]⟩] 29)).heap.size by have := HG5.out; simp; omega)
  have KZ := Lib.hid (show Blk ((W5.alloc (.cells #[.string ⟨#[]⟩, .string ⟨#[122]⟩] 9)).alloc (.cells #[.string ⟨#[]⟩, .string ⟨#[]⟩, .string ⟨#[]⟩, .int .i64 0, .string ⟨#[]⟩, .int .u32 0, .int .u16 0, .int .u16 0, .int .u16 0, .int .u16 0, .int .u16 0, .int .u16 0, .int .u16 0, .int .u16 0, .int .i64 0, .bool false, .slice none 0 0, .bool false, .string ⟨#[]⟩, .bool false, .string ⟨#[]⟩] 29)) (g + 2 + 1) 29 #[.string ⟨#[]⟩, .string ⟨#[]⟩, .string ⟨#[]⟩, .int .i64 0, .string ⟨#[]⟩, .int .u32 0, .int .u16 0, .int .u16 0, .int .u16 0, .int .u16 0, .int .u16 0, .int .u16 0, .int .u16 0, .int .u16 0, .int .i64 0, .bool false, .slice none 0 0, .bool false, .string ⟨#[]⟩, .bool false, .string ⟨#[]⟩] by have := Blk.new (W5.alloc (.cells #[.string ⟨#[]⟩, .string ⟨#[122]⟩] 9)) 29 #[.string ⟨#[]⟩, .string ⟨#[]⟩, .string ⟨#[]⟩, .int .i64 0, .string ⟨#[]⟩, .int .u32 0, .int .u16 0, .int .u16 0, .int .u16 0, .int .u16 0, .int .u16 0, .int .u16 0, .int .u16 0, .int .u16 0, .int .i64 0, .bool false, .slice none 0 0, .bool false, .string ⟨#[]⟩, .bool false, .string ⟨#[]⟩]; rw [show (W5.alloc (.cells #[.string ⟨#[]⟩, .string ⟨#[122]⟩] 9)).heap.size = g + 2 + 1 by rw [HG5.out]; simp] at this; exact this)
  obtain ⟨W6, hW6⟩ : ∃ W, W = (W5.alloc (.cells #[.string ⟨#[]⟩, .string ⟨#[122]⟩] 9)).alloc (.cells #[.string ⟨#[]⟩, .string ⟨#[]⟩, .string ⟨#[]⟩, .int .i64 0, .string ⟨#[]⟩, .int .u32 0, .int .u16 0, .int .u16 0, .int .u16 0, .int .u16 0, .int .u16 0, .int .u16 0, .int .u16 0, .int .u16 0, .int .i64 0, .bool false, .slice none 0 0, .bool false, .string ⟨#[]⟩, .bool false, .string ⟨#[]⟩] 29) := ⟨_, rfl⟩
  rw [← hW6] at R6 V6 K6 B6 HG6 KZ ⊢
  clear hW6 K5 R5 B5 HG5
  obtain ⟨CV, hCV⟩ : ∃ CV, CV = (awV.cells (some ⟨g + 2, 0, none⟩) 2).toArray := ⟨_, rfl⟩
  have HEQ := Lib.hid (show CV = #[.string ⟨#[121]⟩, .string ⟨#[]⟩, .string ⟨#[]⟩, .int .i64 0, .string ⟨#[]⟩, .int .u32 0, .int .u16 0, .int .u16 0, .int .u16 0, .int .u16 0, .int .u16 0, .int .u16 0, .int .u16 0, .int .u16 0, .int .i64 (-1), .bool false, .slice (some ⟨g + 2, 0, none⟩) 2 2, .bool false, .string ⟨#[]⟩, .bool false, .string ⟨#[]⟩] by rw [hCV]; rfl)
  have HCV := Lib.hid hCV
  clear hCV
  have HUV := Lib.hid (show UrlOk CV by rw [HCV.out]; exact urlok awV _ _)
  have HUU := Lib.hid (show CU.size = 21 by rw [HCU.out]; rfl)
  rw [← HEQ.out]
  with_reducible (refine wpList_store_urlO KZ.out rfl HUV.out rfl _ _ rfl rfl rfl ?_)
  intro W k1 o1 z1 b1
  have KV := Lib.hid (show Blk W (g + 3) 29 CV from k1)
  have KU := Lib.hid (show Blk W g 29 CU from (o1 g (by omega)).trans K6.out)
  have RU := Lib.hid (show RowAt textC 1 W (some ⟨g + 1, 0, none⟩) [⟨#[120]⟩] from R6.out.moved (o1 _ (by omega)))
  have RV := Lib.hid (show RowAt textC 1 W (some ⟨g + 2, 0, none⟩) [⟨#[]⟩, ⟨#[122]⟩] from V6.out.moved (o1 _ (by omega)))
  have HB := Lib.hid (b1 _ _ (by have := HG.out; omega) B6.out)
  have HFW := Lib.hid (HF.out.keep HB.out)
  clear k1 o1 z1 b1 R6 V6 K6 B6 HG6 KZ HEQ HF1 HF H1
  go_upto_region 7 with fail
  have HT1 := Lib.hid (show ∀ (W' : World), Below W.heap.size W W' → Calls Tryd.prog 15 #[.agg CU, .bool true] W' fun e w' => e = .returned (.string ⟨#[104, 116, 116, 112, 58, 47, 47, 97, 58, 56, 48, 56, 48, 47, 120]⟩) ∧ Below W'.heap.size W' w' from fun W' hb => by
    have := urltext_calls awU (some ⟨g + 1, 0, none⟩) 1 true aw_ok.1 aw_short.1 W' (HFW.out.keep hb) (RU.out.keep hb) (by decide)
    rw [aw_text1, if_pos rfl, ← HCU.out] at this
    exact this)
  have HT2 := Lib.hid (show ∀ (W' : World), Below W.heap.size W W' → Calls Tryd.prog 15 #[.agg CU, .bool false] W' fun e w' => e = .returned (.string ⟨#[104, 116, 116, 112, 58, 47, 47, 97, 58, 56, 48, 56, 48, 47, 120, 35]⟩) ∧ Below W'.heap.size W' w' from fun W' hb => by
    have := urltext_calls awU (some ⟨g + 1, 0, none⟩) 1 false aw_ok.1 aw_short.1 W' (HFW.out.keep hb) (RU.out.keep hb) (by decide)
    rw [aw_text1, if_neg (by decide), ← HCU.out] at this
    exact this)
  have HT3 := Lib.hid (show ∀ (W' : World), Below W.heap.size W W' → Calls Tryd.prog 15 #[.agg CV, .bool true] W' fun e w' => e = .returned (.string ⟨#[121, 58, 47, 46, 47, 47, 122]⟩) ∧ Below W'.heap.size W' w' from fun W' hb => by
    have := urltext_calls awV (some ⟨g + 2, 0, none⟩) 2 true aw_ok.2 aw_short.2.1 W' (HFW.out.keep hb) (RV.out.keep hb) (by decide)
    rw [aw_text2, ← HCV.out] at this
    exact this)
  have HS1 := Lib.hid (show ∀ (W' : World), Below W.heap.size W W' → Calls Tryd.prog 19 #[.agg CU, .agg CU] W' fun e w' => e = .returned (.bool true) ∧ Below W'.heap.size W' w' from fun W' hb => by
    have := same_calls awU awU (some ⟨g + 1, 0, none⟩) 1 (some ⟨g + 1, 0, none⟩) 1 aw_ok.1 aw_ok.1 aw_short.1 aw_short.1 W' (RU.out.keep hb) (RU.out.keep hb) (by decide) (by decide)
    rw [← HCU.out, show sameV awU awU = true from sameV_iff.2 rfl] at this
    exact this)
  have HS2 := Lib.hid (show ∀ (W' : World), Below W.heap.size W W' → Calls Tryd.prog 19 #[.agg CU, .agg CV] W' fun e w' => e = .returned (.bool false) ∧ Below W'.heap.size W' w' from fun W' hb => by
    have := same_calls awU awV (some ⟨g + 1, 0, none⟩) 1 (some ⟨g + 2, 0, none⟩) 2 aw_ok.1 aw_ok.2 aw_short.1 aw_short.2.1 W' (RU.out.keep hb) (RV.out.keep hb) (by decide) (by decide)
    rw [← HCU.out, ← HCV.out, show sameV awU awV = false from rfl] at this
    exact this)
  have KV := Lib.hid (show Blk W (g + 2 + 1) 29 CV from KV.out)
  go_wp2_with (with_reducible (refine wpList_load_url (Blk.range KU.out) HUU.out rfl _ rfl rfl ?_))
  refine (HT1.out _ (Below.refl _ _)).mono ?_
  rintro e w2 ⟨rfl, hb⟩
  have H2 := Lib.hid hb
  have KU2 := Lib.hid (KU.out.keep hb)
  clear hb
  go_wp2_with (with_reducible (refine wpList_load_urlG (Blk.range KU2.out) HUU.out _ rfl rfl (by kernel_rfl) ?_))
  refine (HT2.out _ H2.out).mono ?_
  rintro e w3 ⟨rfl, hb⟩
  have H3 := Lib.hid (belowOn H2.out H2.out.size hb)
  have KV3 := Lib.hid (KV.out.keep H3.out)
  clear hb KU2 H2
  go_wp2_with (with_reducible refine stopLoad ?_)
  refine stopN_go ?_
  refine wpList_load_urlG (Blk.range KV3.out) HUV.out.1 _ rfl rfl (by kernel_rfl) ?_
  go_wp2_with fail
  refine (HT3.out _ H3.out).mono ?_
  rintro e w4 ⟨rfl, hb⟩
  have H4 := Lib.hid (belowOn H3.out H3.out.size hb)
  have KU4 := Lib.hid (KU.out.keep H4.out)
  clear hb KV3 H3
  go_wp2_with (with_reducible (refine wpList_load_urlG (Blk.range KU4.out) HUU.out _ rfl rfl (by kernel_rfl) ?_))
  refine (HS1.out _ H4.out).mono ?_
  rintro e w5 ⟨rfl, hb⟩
  have H5 := Lib.hid (belowOn H4.out H4.out.size hb)
  have KU5 := Lib.hid (KU.out.keep H5.out)
  have KV5 := Lib.hid (KV.out.keep H5.out)
  clear hb KU4 H4
  go_wp2_with (with_reducible refine stopLoad ?_)
  refine stopN_go ?_
  refine wpList_load_urlG (Blk.range KU5.out) HUU.out _ rfl rfl (by kernel_rfl) ?_
  refine wpList_load_urlG (Blk.range KV5.out) HUV.out.1 _ rfl rfl (by kernel_rfl) ?_
  go_wp2_with fail
  refine (HS2.out _ H5.out).mono ?_
  rintro e w6 ⟨rfl, hb⟩
  have H6 := Lib.hid (belowOn H5.out H5.out.size hb)
  clear hb KU5 KV5 H5
  go_wp2_with fail
  refine (awpath_calls w6).mono ?_
  rintro e w7 ⟨rfl, hb⟩
  have H7 := Lib.hid (belowOn HB.out HB.out.size (belowOn H6.out H6.out.size hb))
  clear hb
  go_wp2_with fail
  go_ret
  exact ⟨rfl, H7.out⟩
end Go.Proofs.YtgljkgkmbfhgiaaDoor
