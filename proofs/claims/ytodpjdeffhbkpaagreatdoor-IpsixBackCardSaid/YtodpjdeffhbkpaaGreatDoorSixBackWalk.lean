/- IpsixBack, walked. -/
import Derived.Test.YtodpjdeffhbkpaaGreatDoorSixAwake
import Derived.Deep.RegionHeld3
set_option linter.unusedVariables false
set_option linter.unusedSimpArgs false
set_option maxRecDepth 100000
namespace Go.Proofs.YtodpjdeffhbkpaaGreatDoor
open Go.RowKit Four Six

set_option maxHeartbeats 8000000 in
theorem back_calls (a b : List Nat) (ha8 : a.length = 8) (hb8 : b.length = 8) (ha : ∀ n ∈ a, n < 65536) (hb : ∀ n ∈ b, n < 65536) (w : World) (hF : FW w) : Calls Tryz.prog 6 #[.agg (cellsA a).toArray, .agg (cellsA b).toArray] w fun e w' => e = .returned (.bool true) ∧ Below w.heap.size w w' := by
  have HF := Lib.hid hF
  clear hF
  have hlen := text6_len a ha8 ha
  have hP := fun (W : World) (h : FW W) => parse_ok (mkB (text6 a)) a (by rw [mkB_data]; exact parse_text6 a ha8 ha) h (by rw [mkB_size]; omega)
  have hTa := fun (W : World) (h : FW W) => text_calls a ha8 ha h
  have hTb := fun (W : World) (h : FW W) => text_calls b hb8 hb h
  have hsz : (mkB (text6 a)).size = (text6 a).length := mkB_size _
  have hinj : ((mkB (text6 a)).toList == (mkB (text6 b)).toList) = (a == b) := by
    rw [ByteArray.toList_eq, ByteArray.toList_eq, mkB_data, mkB_data, Bool.eq_iff_iff, beq_iff_eq, beq_iff_eq]
    exact text6_inj ha8 hb8 ha hb
  have hself : ∀ w, (Op.equalIn 10000 23 (.agg (cellsA a).toArray) (.agg (cellsA a).toArray)).run Tryz.prog w = .ok true w := fun w => by
    have := eq16 (a := a) (b := a) ha8 ha8 rfl rfl w
    rwa [beq_self_eq_true] at this
  have hab := fun w => eq16 ha8 hb8 rfl rfl w
  have i1 : 2 ≤ ((mkB (text6 a)).size : Int) := by omega
  have i2 : ((mkB (text6 a)).size : Int) ≤ 39 := by omega
  generalize mkB (text6 a) = T at *
  generalize mkB (text6 b) = T' at *
  obtain ⟨eq, heq⟩ : ∃ eq, eq = (a == b) := ⟨_, rfl⟩
  rw [← heq] at hinj hab
  obtain ⟨x0, x1, x2, x3, x4, x5, x6, x7, rfl⟩ := eight_of ha8
  obtain ⟨y0, y1, y2, y3, y4, y5, y6, y7, rfl⟩ := eight_of hb8
  rw [cells_eight] at hP hTa hself
  rw [cells_eight, cells_eight] at hab
  rw [cells_eight] at hTb
  rw [cells_eight, cells_eight]
  have HP := Lib.hid hP
  have HTA := Lib.hid hTa
  have HTB := Lib.hid hTb
  clear hP hTa hTb hlen hsz ha8 hb8 ha hb heq
  go_enter Tryz.func6, Tryz.ntmps6
  go_wp2_with fail
  have H0 := Lib.hid (show Below w.heap.size w ((w.alloc (.cells #[.int .u16 x0, .int .u16 x1, .int .u16 x2, .int .u16 x3, .int .u16 x4, .int .u16 x5, .int .u16 x6, .int .u16 x7] 23)).alloc (.cells #[.int .u16 y0, .int .u16 y1, .int .u16 y2, .int .u16 y3, .int .u16 y4, .int .u16 y5, .int .u16 y6, .int .u16 y7] 23)) from ((Below.refl _ _).alloc (Nat.le_refl _) _).alloc (by simp) _)
  have KA := Lib.hid ((Blk.new w 23 #[.int .u16 x0, .int .u16 x1, .int .u16 x2, .int .u16 x3, .int .u16 x4, .int .u16 x5, .int .u16 x6, .int .u16 x7]).alloc (.cells #[.int .u16 y0, .int .u16 y1, .int .u16 y2, .int .u16 y3, .int .u16 y4, .int .u16 y5, .int .u16 y6, .int .u16 y7] 23))
  have KB := Lib.hid (show Blk ((w.alloc (.cells #[.int .u16 x0, .int .u16 x1, .int .u16 x2, .int .u16 x3, .int .u16 x4, .int .u16 x5, .int .u16 x6, .int .u16 x7] 23)).alloc (.cells #[.int .u16 y0, .int .u16 y1, .int .u16 y2, .int .u16 y3, .int .u16 y4, .int .u16 y5, .int .u16 y6, .int .u16 y7] 23)) (w.heap.size + 1) 23 #[.int .u16 y0, .int .u16 y1, .int .u16 y2, .int .u16 y3, .int .u16 y4, .int .u16 y5, .int .u16 y6, .int .u16 y7] from by have := Blk.new (w.alloc (.cells #[.int .u16 x0, .int .u16 x1, .int .u16 x2, .int .u16 x3, .int .u16 x4, .int .u16 x5, .int .u16 x6, .int .u16 x7] 23)) 23 #[.int .u16 y0, .int .u16 y1, .int .u16 y2, .int .u16 y3, .int .u16 y4, .int .u16 y5, .int .u16 y6, .int .u16 y7]; simpa using this)
  refine (awake_calls (HF.out.keep H0.out)).mono ?_
  rintro e w1 ⟨rfl, hb1⟩
  have H1 := Lib.hid (belowOn H0.out H0.out.size hb1)
  have KA1 := Lib.hid (KA.out.keep hb1)
  have KB1 := Lib.hid (KB.out.keep hb1)
  clear hb1 KA KB H0
  have ca0 : w1.cell? ⟨w.heap.size, 0, none⟩ = some (.int .u16 x0) := KA1.out.cell 0
  have ca1 : w1.cell? ⟨w.heap.size, 1, none⟩ = some (.int .u16 x1) := KA1.out.cell 1
  have ca2 : w1.cell? ⟨w.heap.size, 2, none⟩ = some (.int .u16 x2) := KA1.out.cell 2
  have ca3 : w1.cell? ⟨w.heap.size, 3, none⟩ = some (.int .u16 x3) := KA1.out.cell 3
  have ca4 : w1.cell? ⟨w.heap.size, 4, none⟩ = some (.int .u16 x4) := KA1.out.cell 4
  have ca5 : w1.cell? ⟨w.heap.size, 5, none⟩ = some (.int .u16 x5) := KA1.out.cell 5
  have ca6 : w1.cell? ⟨w.heap.size, 6, none⟩ = some (.int .u16 x6) := KA1.out.cell 6
  have ca7 : w1.cell? ⟨w.heap.size, 7, none⟩ = some (.int .u16 x7) := KA1.out.cell 7
  go_wp2_with fail
  refine (HTA.out _ (HF.out.keep H1.out)).mono ?_
  rintro e w2 ⟨rfl, hb2⟩
  have H2 := Lib.hid (belowOn H1.out H1.out.size hb2)
  have KA2 := Lib.hid (KA1.out.keep hb2)
  have KB2 := Lib.hid (KB1.out.keep hb2)
  clear hb2 KA1 KB1 ca0 ca1 ca2 ca3 ca4 ca5 ca6 ca7
  go_wp2_with fail
  refine (HP.out _ (HF.out.keep H2.out)).mono ?_
  rintro e w3 ⟨rfl, hb3⟩
  have H3 := Lib.hid ((belowOn H2.out H2.out.size hb3).alloc (by have := H2.out.size; have := hb3.size; omega) (.cells #[.int .u16 x0, .int .u16 x1, .int .u16 x2, .int .u16 x3, .int .u16 x4, .int .u16 x5, .int .u16 x6, .int .u16 x7] 23))
  obtain ⟨W, hW⟩ : ∃ W, W = w3.alloc (.cells #[.int .u16 x0, .int .u16 x1, .int .u16 x2, .int .u16 x3, .int .u16 x4, .int .u16 x5, .int .u16 x6, .int .u16 x7] 23) := ⟨_, rfl⟩
  have HW := Lib.hid hW
  have KA3 := Lib.hid (show Blk W w.heap.size 23 #[.int .u16 x0, .int .u16 x1, .int .u16 x2, .int .u16 x3, .int .u16 x4, .int .u16 x5, .int .u16 x6, .int .u16 x7] by rw [hW]; exact (KA2.out.keep hb3).alloc _)
  have KB3 := Lib.hid (show Blk W (w.heap.size + 1) 23 #[.int .u16 y0, .int .u16 y1, .int .u16 y2, .int .u16 y3, .int .u16 y4, .int .u16 y5, .int .u16 y6, .int .u16 y7] by rw [hW]; exact (KB2.out.keep hb3).alloc _)
  have KX3 := Lib.hid (show Blk W w3.heap.size 23 #[.int .u16 x0, .int .u16 x1, .int .u16 x2, .int .u16 x3, .int .u16 x4, .int .u16 x5, .int .u16 x6, .int .u16 x7] by rw [hW]; exact Blk.new w3 _ _)
  rw [← hW] at H3
  clear hb3 KA2 KB2 hW
  have ca0 : W.cell? ⟨w.heap.size, 0, none⟩ = some (.int .u16 x0) := KA3.out.cell 0
  have ca1 : W.cell? ⟨w.heap.size, 1, none⟩ = some (.int .u16 x1) := KA3.out.cell 1
  have ca2 : W.cell? ⟨w.heap.size, 2, none⟩ = some (.int .u16 x2) := KA3.out.cell 2
  have ca3 : W.cell? ⟨w.heap.size, 3, none⟩ = some (.int .u16 x3) := KA3.out.cell 3
  have ca4 : W.cell? ⟨w.heap.size, 4, none⟩ = some (.int .u16 x4) := KA3.out.cell 4
  have ca5 : W.cell? ⟨w.heap.size, 5, none⟩ = some (.int .u16 x5) := KA3.out.cell 5
  have ca6 : W.cell? ⟨w.heap.size, 6, none⟩ = some (.int .u16 x6) := KA3.out.cell 6
  have ca7 : W.cell? ⟨w.heap.size, 7, none⟩ = some (.int .u16 x7) := KA3.out.cell 7
  have cb0 : W.cell? ⟨w.heap.size + 1, 0, none⟩ = some (.int .u16 y0) := KB3.out.cell 0
  have cb1 : W.cell? ⟨w.heap.size + 1, 1, none⟩ = some (.int .u16 y1) := KB3.out.cell 1
  have cb2 : W.cell? ⟨w.heap.size + 1, 2, none⟩ = some (.int .u16 y2) := KB3.out.cell 2
  have cb3 : W.cell? ⟨w.heap.size + 1, 3, none⟩ = some (.int .u16 y3) := KB3.out.cell 3
  have cb4 : W.cell? ⟨w.heap.size + 1, 4, none⟩ = some (.int .u16 y4) := KB3.out.cell 4
  have cb5 : W.cell? ⟨w.heap.size + 1, 5, none⟩ = some (.int .u16 y5) := KB3.out.cell 5
  have cb6 : W.cell? ⟨w.heap.size + 1, 6, none⟩ = some (.int .u16 y6) := KB3.out.cell 6
  have cb7 : W.cell? ⟨w.heap.size + 1, 7, none⟩ = some (.int .u16 y7) := KB3.out.cell 7
  have cx0 : W.cell? ⟨w3.heap.size, 0, none⟩ = some (.int .u16 x0) := KX3.out.cell 0
  have cx1 : W.cell? ⟨w3.heap.size, 1, none⟩ = some (.int .u16 x1) := KX3.out.cell 1
  have cx2 : W.cell? ⟨w3.heap.size, 2, none⟩ = some (.int .u16 x2) := KX3.out.cell 2
  have cx3 : W.cell? ⟨w3.heap.size, 3, none⟩ = some (.int .u16 x3) := KX3.out.cell 3
  have cx4 : W.cell? ⟨w3.heap.size, 4, none⟩ = some (.int .u16 x4) := KX3.out.cell 4
  have cx5 : W.cell? ⟨w3.heap.size, 5, none⟩ = some (.int .u16 x5) := KX3.out.cell 5
  have cx6 : W.cell? ⟨w3.heap.size, 6, none⟩ = some (.int .u16 x6) := KX3.out.cell 6
  have cx7 : W.cell? ⟨w3.heap.size, 7, none⟩ = some (.int .u16 x7) := KX3.out.cell 7
  go_wp2_with fail
  try rw [← HW.out]
  have HC := Lib.hid (show W.cell? ⟨w.heap.size, 0, none⟩ = some (.int .u16 x0) ∧ W.cell? ⟨w.heap.size, 1, none⟩ = some (.int .u16 x1) ∧ W.cell? ⟨w.heap.size, 2, none⟩ = some (.int .u16 x2) ∧ W.cell? ⟨w.heap.size, 3, none⟩ = some (.int .u16 x3) ∧ W.cell? ⟨w.heap.size, 4, none⟩ = some (.int .u16 x4) ∧ W.cell? ⟨w.heap.size, 5, none⟩ = some (.int .u16 x5) ∧ W.cell? ⟨w.heap.size, 6, none⟩ = some (.int .u16 x6) ∧ W.cell? ⟨w.heap.size, 7, none⟩ = some (.int .u16 x7) ∧ W.cell? ⟨w.heap.size + 1, 0, none⟩ = some (.int .u16 y0) ∧ W.cell? ⟨w.heap.size + 1, 1, none⟩ = some (.int .u16 y1) ∧ W.cell? ⟨w.heap.size + 1, 2, none⟩ = some (.int .u16 y2) ∧ W.cell? ⟨w.heap.size + 1, 3, none⟩ = some (.int .u16 y3) ∧ W.cell? ⟨w.heap.size + 1, 4, none⟩ = some (.int .u16 y4) ∧ W.cell? ⟨w.heap.size + 1, 5, none⟩ = some (.int .u16 y5) ∧ W.cell? ⟨w.heap.size + 1, 6, none⟩ = some (.int .u16 y6) ∧ W.cell? ⟨w.heap.size + 1, 7, none⟩ = some (.int .u16 y7) ∧ W.cell? ⟨w3.heap.size, 0, none⟩ = some (.int .u16 x0) ∧ W.cell? ⟨w3.heap.size, 1, none⟩ = some (.int .u16 x1) ∧ W.cell? ⟨w3.heap.size, 2, none⟩ = some (.int .u16 x2) ∧ W.cell? ⟨w3.heap.size, 3, none⟩ = some (.int .u16 x3) ∧ W.cell? ⟨w3.heap.size, 4, none⟩ = some (.int .u16 x4) ∧ W.cell? ⟨w3.heap.size, 5, none⟩ = some (.int .u16 x5) ∧ W.cell? ⟨w3.heap.size, 6, none⟩ = some (.int .u16 x6) ∧ W.cell? ⟨w3.heap.size, 7, none⟩ = some (.int .u16 x7) from ⟨ca0, ca1, ca2, ca3, ca4, ca5, ca6, ca7, cb0, cb1, cb2, cb3, cb4, cb5, cb6, cb7, cx0, cx1, cx2, cx3, cx4, cx5, cx6, cx7⟩)
  clear ca0 ca1 ca2 ca3 ca4 ca5 ca6 ca7 cb0 cb1 cb2 cb3 cb4 cb5 cb6 cb7 cx0 cx1 cx2 cx3 cx4 cx5 cx6 cx7 HP HTA HW
  go_region_held3 (fun w' => w'.cell? ⟨w.heap.size, 0, none⟩ = some (.int .u16 x0) ∧ w'.cell? ⟨w.heap.size, 1, none⟩ = some (.int .u16 x1) ∧ w'.cell? ⟨w.heap.size, 2, none⟩ = some (.int .u16 x2) ∧ w'.cell? ⟨w.heap.size, 3, none⟩ = some (.int .u16 x3) ∧ w'.cell? ⟨w.heap.size, 4, none⟩ = some (.int .u16 x4) ∧ w'.cell? ⟨w.heap.size, 5, none⟩ = some (.int .u16 x5) ∧ w'.cell? ⟨w.heap.size, 6, none⟩ = some (.int .u16 x6) ∧ w'.cell? ⟨w.heap.size, 7, none⟩ = some (.int .u16 x7) ∧ w'.cell? ⟨w.heap.size + 1, 0, none⟩ = some (.int .u16 y0) ∧ w'.cell? ⟨w.heap.size + 1, 1, none⟩ = some (.int .u16 y1) ∧ w'.cell? ⟨w.heap.size + 1, 2, none⟩ = some (.int .u16 y2) ∧ w'.cell? ⟨w.heap.size + 1, 3, none⟩ = some (.int .u16 y3) ∧ w'.cell? ⟨w.heap.size + 1, 4, none⟩ = some (.int .u16 y4) ∧ w'.cell? ⟨w.heap.size + 1, 5, none⟩ = some (.int .u16 y5) ∧ w'.cell? ⟨w.heap.size + 1, 6, none⟩ = some (.int .u16 y6) ∧ w'.cell? ⟨w.heap.size + 1, 7, none⟩ = some (.int .u16 y7) ∧ w'.cell? ⟨w3.heap.size, 0, none⟩ = some (.int .u16 x0) ∧ w'.cell? ⟨w3.heap.size, 1, none⟩ = some (.int .u16 x1) ∧ w'.cell? ⟨w3.heap.size, 2, none⟩ = some (.int .u16 x2) ∧ w'.cell? ⟨w3.heap.size, 3, none⟩ = some (.int .u16 x3) ∧ w'.cell? ⟨w3.heap.size, 4, none⟩ = some (.int .u16 x4) ∧ w'.cell? ⟨w3.heap.size, 5, none⟩ = some (.int .u16 x5) ∧ w'.cell? ⟨w3.heap.size, 6, none⟩ = some (.int .u16 x6) ∧ w'.cell? ⟨w3.heap.size, 7, none⟩ = some (.int .u16 x7))
    (first | exact HC.out | exact HC4.out | go_keep)
    (first
      | (go_at_call 14; refine (HTB.out _ (HF.out.keep H3.out.drew)).mono ?_; rintro e w4 ⟨rfl, hb4⟩; have H4 := Lib.hid (belowOn H3.out.drew H3.out.drew.size hb4); have HC4 := Lib.hid (show w4.cell? ⟨w.heap.size, 0, none⟩ = some (.int .u16 x0) ∧ w4.cell? ⟨w.heap.size, 1, none⟩ = some (.int .u16 x1) ∧ w4.cell? ⟨w.heap.size, 2, none⟩ = some (.int .u16 x2) ∧ w4.cell? ⟨w.heap.size, 3, none⟩ = some (.int .u16 x3) ∧ w4.cell? ⟨w.heap.size, 4, none⟩ = some (.int .u16 x4) ∧ w4.cell? ⟨w.heap.size, 5, none⟩ = some (.int .u16 x5) ∧ w4.cell? ⟨w.heap.size, 6, none⟩ = some (.int .u16 x6) ∧ w4.cell? ⟨w.heap.size, 7, none⟩ = some (.int .u16 x7) ∧ w4.cell? ⟨w.heap.size + 1, 0, none⟩ = some (.int .u16 y0) ∧ w4.cell? ⟨w.heap.size + 1, 1, none⟩ = some (.int .u16 y1) ∧ w4.cell? ⟨w.heap.size + 1, 2, none⟩ = some (.int .u16 y2) ∧ w4.cell? ⟨w.heap.size + 1, 3, none⟩ = some (.int .u16 y3) ∧ w4.cell? ⟨w.heap.size + 1, 4, none⟩ = some (.int .u16 y4) ∧ w4.cell? ⟨w.heap.size + 1, 5, none⟩ = some (.int .u16 y5) ∧ w4.cell? ⟨w.heap.size + 1, 6, none⟩ = some (.int .u16 y6) ∧ w4.cell? ⟨w.heap.size + 1, 7, none⟩ = some (.int .u16 y7) ∧ w4.cell? ⟨w3.heap.size, 0, none⟩ = some (.int .u16 x0) ∧ w4.cell? ⟨w3.heap.size, 1, none⟩ = some (.int .u16 x1) ∧ w4.cell? ⟨w3.heap.size, 2, none⟩ = some (.int .u16 x2) ∧ w4.cell? ⟨w3.heap.size, 3, none⟩ = some (.int .u16 x3) ∧ w4.cell? ⟨w3.heap.size, 4, none⟩ = some (.int .u16 x4) ∧ w4.cell? ⟨w3.heap.size, 5, none⟩ = some (.int .u16 x5) ∧ w4.cell? ⟨w3.heap.size, 6, none⟩ = some (.int .u16 x6) ∧ w4.cell? ⟨w3.heap.size, 7, none⟩ = some (.int .u16 x7) from ⟨(KA3.out.drew.keep hb4).cell 0, (KA3.out.drew.keep hb4).cell 1, (KA3.out.drew.keep hb4).cell 2, (KA3.out.drew.keep hb4).cell 3, (KA3.out.drew.keep hb4).cell 4, (KA3.out.drew.keep hb4).cell 5, (KA3.out.drew.keep hb4).cell 6, (KA3.out.drew.keep hb4).cell 7, (KB3.out.drew.keep hb4).cell 0, (KB3.out.drew.keep hb4).cell 1, (KB3.out.drew.keep hb4).cell 2, (KB3.out.drew.keep hb4).cell 3, (KB3.out.drew.keep hb4).cell 4, (KB3.out.drew.keep hb4).cell 5, (KB3.out.drew.keep hb4).cell 6, (KB3.out.drew.keep hb4).cell 7, (KX3.out.drew.keep hb4).cell 0, (KX3.out.drew.keep hb4).cell 1, (KX3.out.drew.keep hb4).cell 2, (KX3.out.drew.keep hb4).cell 3, (KX3.out.drew.keep hb4).cell 4, (KX3.out.drew.keep hb4).cell 5, (KX3.out.drew.keep hb4).cell 6, (KX3.out.drew.keep hb4).cell 7⟩); clear hb4))
  go_wp2_with fail
  go_ret
  exact ⟨rfl, H4.out⟩
end Go.Proofs.YtodpjdeffhbkpaaGreatDoor
