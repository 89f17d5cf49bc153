/- IpsixTexts, walked. -/
import Derived.Test.YtodpjdeffhbkpaaGreatDoorSixAwake
import Derived.Test.YtodpjdeffhbkpaaGreatDoorSixRefText2
import Derived.Deep.RegionHeld3
set_option linter.unusedVariables false
set_option linter.unusedSimpArgs false
set_option maxRecDepth 100000
namespace Go.Proofs.YtodpjdeffhbkpaaGreatDoor
open Go.RowKit Four Six

set_option maxHeartbeats 8000000 in
theorem texts_calls (a : List Nat) (h8 : a.length = 8) (ha : ∀ n ∈ a, n < 65536) (w : World) (hF : FW w) : Calls Tryz.prog 5 #[.agg (cellsA a).toArray] w fun e w' => e = .returned (.bool true) ∧ Below w.heap.size w w' := by
  have HF := Lib.hid hF
  clear hF
  have hT := fun (W : World) (h : FW W) => text_calls a h8 ha h
  have hR := fun (W : World) => reftext_calls a h8 ha W
  generalize mkB (text6 a) = T at hT hR
  obtain ⟨x0, x1, x2, x3, x4, x5, x6, x7, hxs⟩ := eight_of h8
  have hcc : (cellsA a).toArray = #[.int .u16 x0, .int .u16 x1, .int .u16 x2, .int .u16 x3, .int .u16 x4, .int .u16 x5, .int .u16 x6, .int .u16 x7] := by rw [hxs]; exact cells_eight _ _ _ _ _ _ _ _
  rw [hcc] at hT hR ⊢
  have HT := Lib.hid hT
  have HR := Lib.hid hR
  clear hT hR hxs hcc h8 ha
  go_enter Tryz.func5, Tryz.ntmps5
  go_wp2_with fail
  have H0 := Lib.hid (show Below w.heap.size w (w.alloc (.cells #[.int .u16 x0, .int .u16 x1, .int .u16 x2, .int .u16 x3, .int .u16 x4, .int .u16 x5, .int .u16 x6, .int .u16 x7] 23)) from (Below.refl _ _).alloc (Nat.le_refl _) _)
  refine (awake_calls (HF.out.keep H0.out)).mono ?_
  rintro e w1 ⟨rfl, hb1⟩
  have H1 := Lib.hid (belowOn H0.out H0.out.size hb1)
  have K1 := Lib.hid ((Blk.new w 23 #[.int .u16 x0, .int .u16 x1, .int .u16 x2, .int .u16 x3, .int .u16 x4, .int .u16 x5, .int .u16 x6, .int .u16 x7]).keep hb1)
  clear hb1 H0
  have HC0 := Lib.hid (show w1.cell? ⟨w.heap.size, 0, none⟩ = some (.int .u16 x0) ∧ w1.cell? ⟨w.heap.size, 1, none⟩ = some (.int .u16 x1) ∧ w1.cell? ⟨w.heap.size, 2, none⟩ = some (.int .u16 x2) ∧ w1.cell? ⟨w.heap.size, 3, none⟩ = some (.int .u16 x3) ∧ w1.cell? ⟨w.heap.size, 4, none⟩ = some (.int .u16 x4) ∧ w1.cell? ⟨w.heap.size, 5, none⟩ = some (.int .u16 x5) ∧ w1.cell? ⟨w.heap.size, 6, none⟩ = some (.int .u16 x6) ∧ w1.cell? ⟨w.heap.size, 7, none⟩ = some (.int .u16 x7) from ⟨K1.out.cell 0, K1.out.cell 1, K1.out.cell 2, K1.out.cell 3, K1.out.cell 4, K1.out.cell 5, K1.out.cell 6, K1.out.cell 7⟩)
  have HB0 := Lib.hid (show Below w1.heap.size w1 w1.drew from (Below.refl _ _).drew)
  go_wp2_with fail
  go_region_held3 (fun w' => w'.cell? ⟨w.heap.size, 0, none⟩ = some (.int .u16 x0) ∧ w'.cell? ⟨w.heap.size, 1, none⟩ = some (.int .u16 x1) ∧ w'.cell? ⟨w.heap.size, 2, none⟩ = some (.int .u16 x2) ∧ w'.cell? ⟨w.heap.size, 3, none⟩ = some (.int .u16 x3) ∧ w'.cell? ⟨w.heap.size, 4, none⟩ = some (.int .u16 x4) ∧ w'.cell? ⟨w.heap.size, 5, none⟩ = some (.int .u16 x5) ∧ w'.cell? ⟨w.heap.size, 6, none⟩ = some (.int .u16 x6) ∧ w'.cell? ⟨w.heap.size, 7, none⟩ = some (.int .u16 x7))
    (first | exact HC0.out | exact HC1.out | exact HC2.out | go_keep)
    (first
      | (go_at_call 14; (with_reducible refine (HT.out w1.drew (HF.out.keep H1.out.drew)).mono ?_); rintro e w3 ⟨rfl, hb⟩; have H3 := Lib.hid (belowOn HB0.out HB0.out.size hb); have HC1 := Lib.hid (show w3.cell? ⟨w.heap.size, 0, none⟩ = some (.int .u16 x0) ∧ w3.cell? ⟨w.heap.size, 1, none⟩ = some (.int .u16 x1) ∧ w3.cell? ⟨w.heap.size, 2, none⟩ = some (.int .u16 x2) ∧ w3.cell? ⟨w.heap.size, 3, none⟩ = some (.int .u16 x3) ∧ w3.cell? ⟨w.heap.size, 4, none⟩ = some (.int .u16 x4) ∧ w3.cell? ⟨w.heap.size, 5, none⟩ = some (.int .u16 x5) ∧ w3.cell? ⟨w.heap.size, 6, none⟩ = some (.int .u16 x6) ∧ w3.cell? ⟨w.heap.size, 7, none⟩ = some (.int .u16 x7) from ⟨(K1.out.drew.keep hb).cell 0, (K1.out.drew.keep hb).cell 1, (K1.out.drew.keep hb).cell 2, (K1.out.drew.keep hb).cell 3, (K1.out.drew.keep hb).cell 4, (K1.out.drew.keep hb).cell 5, (K1.out.drew.keep hb).cell 6, (K1.out.drew.keep hb).cell 7⟩); clear hb)
      | (go_at_call 15; (with_reducible refine (HR.out w3).mono ?_); rintro e w4 ⟨rfl, hb⟩; have H4 := Lib.hid (belowOn H3.out H3.out.size hb); have HC2 := Lib.hid (show w4.cell? ⟨w.heap.size, 0, none⟩ = some (.int .u16 x0) ∧ w4.cell? ⟨w.heap.size, 1, none⟩ = some (.int .u16 x1) ∧ w4.cell? ⟨w.heap.size, 2, none⟩ = some (.int .u16 x2) ∧ w4.cell? ⟨w.heap.size, 3, none⟩ = some (.int .u16 x3) ∧ w4.cell? ⟨w.heap.size, 4, none⟩ = some (.int .u16 x4) ∧ w4.cell? ⟨w.heap.size, 5, none⟩ = some (.int .u16 x5) ∧ w4.cell? ⟨w.heap.size, 6, none⟩ = some (.int .u16 x6) ∧ w4.cell? ⟨w.heap.size, 7, none⟩ = some (.int .u16 x7) from ⟨((K1.out.keep H3.out).keep hb).cell 0, ((K1.out.keep H3.out).keep hb).cell 1, ((K1.out.keep H3.out).keep hb).cell 2, ((K1.out.keep H3.out).keep hb).cell 3, ((K1.out.keep H3.out).keep hb).cell 4, ((K1.out.keep H3.out).keep hb).cell 5, ((K1.out.keep H3.out).keep hb).cell 6, ((K1.out.keep H3.out).keep hb).cell 7⟩); clear hb))
  go_wp2_with fail
  go_ret
  exact ⟨by simp, belowOn H1.out H1.out.size H4.out⟩
end Go.Proofs.YtodpjdeffhbkpaaGreatDoor
