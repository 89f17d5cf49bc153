/- The reference's text of an address, walked. -/
import Derived.Test.YtodpjdeffhbkpaaGreatDoorSixRefText
import Derived.Test.YtodpjdeffhbkpaaGreatDoorSixTextPure
set_option linter.unusedVariables false
set_option linter.unusedSimpArgs false
set_option maxRecDepth 100000
namespace Go.Proofs.YtodpjdeffhbkpaaGreatDoor
open Go.RowKit Four Six

set_option maxHeartbeats 8000000 in
theorem reftext_calls (a : List Nat) (h8 : a.length = 8) (ha : ∀ n ∈ a, n < 65536) (w : World) : Calls Tryz.prog 15 #[.agg (cellsA a).toArray] w fun e w' => e = .returned (.string (mkB (text6 a))) ∧ Below w.heap.size w w' := by
  obtain ⟨W, hW⟩ : ∃ W, W = w.alloc (.cells (cellsA a).toArray 23) := ⟨_, rfl⟩
  have HB := Lib.hid (show Below w.heap.size w W by rw [hW]; exact (Below.refl _ _).alloc (Nat.le_refl _) _)
  have hK : Blk W w.heap.size 23 (cellsA a).toArray := by rw [hW]; exact Blk.new w _ _
  have hRun := fun (i : Nat) (hi : i ≤ 8) (W : World) => run_calls a h8 i hi W
  have HX := Lib.hid h8
  obtain ⟨x0, x1, x2, x3, x4, x5, x6, x7, hxs⟩ := eight_of h8
  have hcc : (cellsA a).toArray = #[.int .u16 x0, .int .u16 x1, .int .u16 x2, .int .u16 x3, .int .u16 x4, .int .u16 x5, .int .u16 x6, .int .u16 x7] := by rw [hxs]; exact cells_eight _ _ _ _ _ _ _ _
  have HW2 := Lib.hid (show w.alloc (.cells #[.int .u16 x0, .int .u16 x1, .int .u16 x2, .int .u16 x3, .int .u16 x4, .int .u16 x5, .int .u16 x6, .int .u16 x7] 23) = W by rw [hW, hcc])
  rw [hcc] at hRun hK ⊢
  have HRun := Lib.hid hRun
  have HK := Lib.hid hK
  have HXS := Lib.hid hxs
  clear hW h8 hxs hcc hRun hK
  go_enter Tryz.func15, Tryz.ntmps15
  go_wp2_with fail
  rw [HW2.out]
  go_loopg [4, 3] 8 (fun m v4 v3 w' => Hid (∃ (i b : Nat), i ≤ 8 ∧ b ≤ 7 ∧ m = 8 - i ∧ v4 = .int .i64 i ∧ v3 = .int .i64 b ∧ bestR a 8 0 0 = bestR a (8 - i) i b ∧ Below W.heap.size W w'))
  case atStart => exact ⟨0, 0, by omega, by omega, rfl, rfl, rfl, rfl, Below.refl _ _⟩
  case round =>
    obtain ⟨i, b, hi, hb7, hm, rfl, rfl, hbest, hbw⟩ := hrel.out
    have HM := Lib.hid hm
    have HBE := Lib.hid hbest
    have HBW := Lib.hid hbw
    have HKr := Lib.hid (HK.out.keep hbw)
    clear hrel hm hbest hbw
    by_cases hi8 : i < 8
    · have HC0 := Lib.hid (show wr.cell? ⟨w.heap.size, 0, none⟩ = some (.int .u16 x0) ∧ wr.cell? ⟨w.heap.size, 1, none⟩ = some (.int .u16 x1) ∧ wr.cell? ⟨w.heap.size, 2, none⟩ = some (.int .u16 x2) ∧ wr.cell? ⟨w.heap.size, 3, none⟩ = some (.int .u16 x3) ∧ wr.cell? ⟨w.heap.size, 4, none⟩ = some (.int .u16 x4) ∧ wr.cell? ⟨w.heap.size, 5, none⟩ = some (.int .u16 x5) ∧ wr.cell? ⟨w.heap.size, 6, none⟩ = some (.int .u16 x6) ∧ wr.cell? ⟨w.heap.size, 7, none⟩ = some (.int .u16 x7) from ⟨HKr.out.cell 0, HKr.out.cell 1, HKr.out.cell 2, HKr.out.cell 3, HKr.out.cell 4, HKr.out.cell 5, HKr.out.cell 6, HKr.out.cell 7⟩)
      have HB0 := Lib.hid (show Below wr.heap.size wr wr.drew from (Below.refl _ _).drew)
      have hi8' : decide ((i : Int) < 8) = true := by simp; omega
      by_cases hlt : Six.runN (a.drop b) < Six.runN (a.drop i)
      · have hlt' : (Six.runN (a.drop b) : Int) < (Six.runN (a.drop i) : Int) := by omega
        have HN := Lib.hid (show bestR a 8 0 0 = bestR a (8 - (i + 1)) (i + 1) i by
          rw [HBE.out, show 8 - i = (8 - (i + 1)) + 1 by omega, bestR, if_pos hlt])
        have hri := HRun.out i (by omega)
        have hrb := HRun.out b (by omega)
        generalize Six.runN (a.drop i) = ri at hri hlt'
        generalize Six.runN (a.drop b) = rb at hrb hlt'
        have HRI := Lib.hid hri
        have HRB := Lib.hid hrb
        clear hri hrb hlt
        go_wp2_with fail
        go_region_held3 (fun w' => w'.cell? ⟨w.heap.size, 0, none⟩ = some (.int .u16 x0) ∧ w'.cell? ⟨w.heap.size, 1, none⟩ = some (.int .u16 x1) ∧ w'.cell? ⟨w.heap.size, 2, none⟩ = some (.int .u16 x2) ∧ w'.cell? ⟨w.heap.size, 3, none⟩ = some (.int .u16 x3) ∧ w'.cell? ⟨w.heap.size, 4, none⟩ = some (.int .u16 x4) ∧ w'.cell? ⟨w.heap.size, 5, none⟩ = some (.int .u16 x5) ∧ w'.cell? ⟨w.heap.size, 6, none⟩ = some (.int .u16 x6) ∧ w'.cell? ⟨w.heap.size, 7, none⟩ = some (.int .u16 x7))
          (first | exact HC0.out | exact HC1.out | exact HC2.out | go_keep)
          (first
            | (go_at_call 25; (with_reducible refine (HRI.out wr.drew).mono ?_); rintro e w3 ⟨rfl, hb⟩; have H1 := Lib.hid (belowOn HB0.out HB0.out.size hb); have HC1 := Lib.hid (show w3.cell? ⟨w.heap.size, 0, none⟩ = some (.int .u16 x0) ∧ w3.cell? ⟨w.heap.size, 1, none⟩ = some (.int .u16 x1) ∧ w3.cell? ⟨w.heap.size, 2, none⟩ = some (.int .u16 x2) ∧ w3.cell? ⟨w.heap.size, 3, none⟩ = some (.int .u16 x3) ∧ w3.cell? ⟨w.heap.size, 4, none⟩ = some (.int .u16 x4) ∧ w3.cell? ⟨w.heap.size, 5, none⟩ = some (.int .u16 x5) ∧ w3.cell? ⟨w.heap.size, 6, none⟩ = some (.int .u16 x6) ∧ w3.cell? ⟨w.heap.size, 7, none⟩ = some (.int .u16 x7) from ⟨(HKr.out.drew.keep hb).cell 0, (HKr.out.drew.keep hb).cell 1, (HKr.out.drew.keep hb).cell 2, (HKr.out.drew.keep hb).cell 3, (HKr.out.drew.keep hb).cell 4, (HKr.out.drew.keep hb).cell 5, (HKr.out.drew.keep hb).cell 6, (HKr.out.drew.keep hb).cell 7⟩); clear hb)
            | (go_at_call 25; (with_reducible refine (HRB.out w3).mono ?_); rintro e w4 ⟨rfl, hb⟩; have H2 := Lib.hid (belowOn H1.out H1.out.size hb); have HC2 := Lib.hid (show w4.cell? ⟨w.heap.size, 0, none⟩ = some (.int .u16 x0) ∧ w4.cell? ⟨w.heap.size, 1, none⟩ = some (.int .u16 x1) ∧ w4.cell? ⟨w.heap.size, 2, none⟩ = some (.int .u16 x2) ∧ w4.cell? ⟨w.heap.size, 3, none⟩ = some (.int .u16 x3) ∧ w4.cell? ⟨w.heap.size, 4, none⟩ = some (.int .u16 x4) ∧ w4.cell? ⟨w.heap.size, 5, none⟩ = some (.int .u16 x5) ∧ w4.cell? ⟨w.heap.size, 6, none⟩ = some (.int .u16 x6) ∧ w4.cell? ⟨w.heap.size, 7, none⟩ = some (.int .u16 x7) from ⟨((HKr.out.keep H1.out).keep hb).cell 0, ((HKr.out.keep H1.out).keep hb).cell 1, ((HKr.out.keep H1.out).keep hb).cell 2, ((HKr.out.keep H1.out).keep hb).cell 3, ((HKr.out.keep H1.out).keep hb).cell 4, ((HKr.out.keep H1.out).keep hb).cell 5, ((HKr.out.keep H1.out).keep hb).cell 6, ((HKr.out.keep H1.out).keep hb).cell 7⟩); clear hb))
        go_wp2_with fail
        go_roundg (8 - (i + 1))
        case measure => have := HM.out; omega
        case rel => exact ⟨i + 1, i, by omega, by omega, rfl, by first | rfl | go_num, rfl, HN.out, belowOn HBW.out HBW.out.size H2.out⟩
      · have hlt' : ¬ (Six.runN (a.drop b) : Int) < (Six.runN (a.drop i) : Int) := by omega
        have HN := Lib.hid (show bestR a 8 0 0 = bestR a (8 - (i + 1)) (i + 1) b by
          rw [HBE.out, show 8 - i = (8 - (i + 1)) + 1 by omega, bestR, if_neg hlt])
        have hri := HRun.out i (by omega)
        have hrb := HRun.out b (by omega)
        generalize Six.runN (a.drop i) = ri at hri hlt'
        generalize Six.runN (a.drop b) = rb at hrb hlt'
        have HRI := Lib.hid hri
        have HRB := Lib.hid hrb
        clear hri hrb hlt
        go_wp2_with fail
        go_region_held3 (fun w' => w'.cell? ⟨w.heap.size, 0, none⟩ = some (.int .u16 x0) ∧ w'.cell? ⟨w.heap.size, 1, none⟩ = some (.int .u16 x1) ∧ w'.cell? ⟨w.heap.size, 2, none⟩ = some (.int .u16 x2) ∧ w'.cell? ⟨w.heap.size, 3, none⟩ = some (.int .u16 x3) ∧ w'.cell? ⟨w.heap.size, 4, none⟩ = some (.int .u16 x4) ∧ w'.cell? ⟨w.heap.size, 5, none⟩ = some (.int .u16 x5) ∧ w'.cell? ⟨w.heap.size, 6, none⟩ = some (.int .u16 x6) ∧ w'.cell? ⟨w.heap.size, 7, none⟩ = some (.int .u16 x7))
          (first | exact HC0.out | exact HC1.out | exact HC2.out | go_keep)
          (first
            | (go_at_call 25; (with_reducible refine (HRI.out wr.drew).mono ?_); rintro e w3 ⟨rfl, hb⟩; have H1 := Lib.hid (belowOn HB0.out HB0.out.size hb); have HC1 := Lib.hid (show w3.cell? ⟨w.heap.size, 0, none⟩ = some (.int .u16 x0) ∧ w3.cell? ⟨w.heap.size, 1, none⟩ = some (.int .u16 x1) ∧ w3.cell? ⟨w.heap.size, 2, none⟩ = some (.int .u16 x2) ∧ w3.cell? ⟨w.heap.size, 3, none⟩ = some (.int .u16 x3) ∧ w3.cell? ⟨w.heap.size, 4, none⟩ = some (.int .u16 x4) ∧ w3.cell? ⟨w.heap.size, 5, none⟩ = some (.int .u16 x5) ∧ w3.cell? ⟨w.heap.size, 6, none⟩ = some (.int .u16 x6) ∧ w3.cell? ⟨w.heap.size, 7, none⟩ = some (.int .u16 x7) from ⟨(HKr.out.drew.keep hb).cell 0, (HKr.out.drew.keep hb).cell 1, (HKr.out.drew.keep hb).cell 2, (HKr.out.drew.keep hb).cell 3, (HKr.out.drew.keep hb).cell 4, (HKr.out.drew.keep hb).cell 5, (HKr.out.drew.keep hb).cell 6, (HKr.out.drew.keep hb).cell 7⟩); clear hb)
            | (go_at_call 25; (with_reducible refine (HRB.out w3).mono ?_); rintro e w4 ⟨rfl, hb⟩; have H2 := Lib.hid (belowOn H1.out H1.out.size hb); have HC2 := Lib.hid (show w4.cell? ⟨w.heap.size, 0, none⟩ = some (.int .u16 x0) ∧ w4.cell? ⟨w.heap.size, 1, none⟩ = some (.int .u16 x1) ∧ w4.cell? ⟨w.heap.size, 2, none⟩ = some (.int .u16 x2) ∧ w4.cell? ⟨w.heap.size, 3, none⟩ = some (.int .u16 x3) ∧ w4.cell? ⟨w.heap.size, 4, none⟩ = some (.int .u16 x4) ∧ w4.cell? ⟨w.heap.size, 5, none⟩ = some (.int .u16 x5) ∧ w4.cell? ⟨w.heap.size, 6, none⟩ = some (.int .u16 x6) ∧ w4.cell? ⟨w.heap.size, 7, none⟩ = some (.int .u16 x7) from ⟨((HKr.out.keep H1.out).keep hb).cell 0, ((HKr.out.keep H1.out).keep hb).cell 1, ((HKr.out.keep H1.out).keep hb).cell 2, ((HKr.out.keep H1.out).keep hb).cell 3, ((HKr.out.keep H1.out).keep hb).cell 4, ((HKr.out.keep H1.out).keep hb).cell 5, ((HKr.out.keep H1.out).keep hb).cell 6, ((HKr.out.keep H1.out).keep hb).cell 7⟩); clear hb))
        go_wp2_with fail
        go_roundg (8 - (i + 1))
        case measure => have := HM.out; omega
        case rel => exact ⟨i + 1, b, by omega, by omega, rfl, by first | rfl | go_num, rfl, HN.out, belowOn HBW.out HBW.out.size H2.out⟩
    · obtain rfl : i = 8 := by omega
      have hbe : bestR a 8 0 0 = b := HBE.out
      have hbl := best_is a
      rw [hbe] at hbl
      have hrl := runN_le (a.drop b)
      rw [List.length_drop, HX.out] at hrl
      have hrb := HRun.out b (by omega)
      generalize hn : Six.runN (a.drop b) = n at hbl hrl hrb
      have HRB := Lib.hid (hrb wr)
      have HBL := Lib.hid hbl
      have hc0 : wr.cell? ⟨w.heap.size, 0, none⟩ = some (.int .u16 x0) := HKr.out.cell 0
      have hc1 : wr.cell? ⟨w.heap.size, 1, none⟩ = some (.int .u16 x1) := HKr.out.cell 1
      have hc2 : wr.cell? ⟨w.heap.size, 2, none⟩ = some (.int .u16 x2) := HKr.out.cell 2
      have hc3 : wr.cell? ⟨w.heap.size, 3, none⟩ = some (.int .u16 x3) := HKr.out.cell 3
      have hc4 : wr.cell? ⟨w.heap.size, 4, none⟩ = some (.int .u16 x4) := HKr.out.cell 4
      have hc5 : wr.cell? ⟨w.heap.size, 5, none⟩ = some (.int .u16 x5) := HKr.out.cell 5
      have hc6 : wr.cell? ⟨w.heap.size, 6, none⟩ = some (.int .u16 x6) := HKr.out.cell 6
      have hc7 : wr.cell? ⟨w.heap.size, 7, none⟩ = some (.int .u16 x7) := HKr.out.cell 7
      clear hrb hbl hn hbe HBE HRun
      go_wp2_with fail
      refine HRB.out.mono ?_
      rintro e w3 ⟨rfl, hb3⟩
      have HB3 := Lib.hid (belowOn HBW.out HBW.out.size hb3)
      clear hb3 HRB hc0 hc1 hc2 hc3 hc4 hc5 hc6 hc7
      go_wp2_with fail
      have HC := Lib.hid (show ∀ (k m : Nat) (W' : World), Below W.heap.size W W' → a[k]? = some m → W'.cell? ⟨w.heap.size, k, none⟩ = some (.int .u16 m) from fun k m W' hb hm => by
        rw [(HK.out.keep hb).cell]
        have h2 : (cellsA a).toArray[k]? = some (.int .u16 m) := by simp [cellsA, hm]
        rw [HXS.out] at h2
        rw [cells_eight] at h2
        exact h2)
      have HA := Lib.hid ha
      clear ha
      go_loopg [7, 6] 8 (fun m v7 v6 w' => Hid (∃ (k : Nat) (out : List UInt8), k ≤ 8 ∧ m = 8 - k ∧ v7 = .int .i64 k ∧ v6 = .string (mkB out) ∧ PT a b n k out ∧ Below W.heap.size W w'))
      case atStart => exact ⟨0, [], by omega, by omega, rfl, rfl, by
        by_cases h : n < 2
        · exact .inl ⟨h, rfl⟩
        · exact .inr ⟨by omega, .inl ⟨by omega, rfl⟩⟩, HB3.out⟩
      case round =>
        obtain ⟨k, out, hk, hm, rfl, rfl, hPT, hbw⟩ := hrel.out
        have HM2 := Lib.hid hm
        have HPT := Lib.hid hPT
        have HBW2 := Lib.hid hbw
        have hol := pt_len hPT HA.out HX.out
        clear hrel hm hPT hbw
        by_cases hk8 : k < 8
        · skip
          obtain ⟨m, hm⟩ : ∃ m, a[k]? = some m := ⟨a[k]'(by rw [HX.out]; exact hk8), List.getElem?_eq_getElem _⟩
          have hm6 := HA.out m (List.mem_of_getElem? hm)
          have hcell := HC.out k m wr HBW2.out hm
          have HST := Lib.hid (fun hs => pt_step HPT.out hm hs)
          have HI := Lib.hid (hex_calls m hm6 wr)
          have zE : (mkB (hexL m)).size ≤ 4 := by rw [mkB_size]; exact (hex_len4 hm6).2
          obtain ⟨O, hO⟩ : ∃ O, O = mkB out := ⟨_, rfl⟩
          have zO : O.size ≤ 100 := by rw [hO, mkB_size]; exact hol
          obtain ⟨E, hE⟩ : ∃ E, E = mkB (hexL m) := ⟨_, rfl⟩
          rw [← hE] at HI zE
          rw [← hO]
          have HO := Lib.hid hO
          have HE := Lib.hid hE
          clear hm hO hE hol hm6
          by_cases hn2 : n < 2
          · by_cases hk0 : k = 0
            · skip
              have k0 : ¬ (0 : Int) < (k : Int) := by omega
              have n2 : ¬ (2 : Int) ≤ (n : Int) := by omega
              have n3 : (n : Int) < 2 := by omega
              have HN := Lib.hid (HST.out (by omega))
              rw [if_neg (by omega)] at HN
              have a2 : ∀ w, (Op.stringOp .add O E).run Tryz.prog w = .ok (.string (O ++ E)) w := fun w => run_string_add_sum w _ _ (by omega)
              have HF := Lib.hid (show O ++ E = mkB (out ++ [] ++ hexL m) by rw [HO.out, HE.out]; apply ByteArray.ext; simp [mkB, ByteArray.data_append])
              clear HST
              try clear hk0
              try clear hbn
              go_wp2_with fail
              refine HI.out.mono ?_
              rintro e w5 ⟨rfl, hb5⟩
              have HB5 := Lib.hid (belowOn HBW2.out HBW2.out.size hb5)
              clear hb5
              go_wp2_with fail
              rw [HF.out]
              go_roundg (8 - (k + 1))
              case measure => have := HM2.out; omega
              case rel => exact ⟨k + 1, _, by omega, rfl, by first | rfl | go_num, rfl, HN.out, HB5.out⟩
            · skip
              have k0 : (0 : Int) < (k : Int) := by omega
              have n2 : ¬ (2 : Int) ≤ (n : Int) := by omega
              have n3 : (n : Int) < 2 := by omega
              have HN := Lib.hid (HST.out (by omega))
              rw [if_pos (by omega)] at HN
              have a1 : ∀ w, (Op.stringOp .add O ⟨#[58]⟩).run Tryz.prog w = .ok (.string (O ++ (⟨#[58]⟩ : ByteArray))) w := fun w => run_string_add_sum w _ _ (by rw [show (⟨#[58]⟩ : ByteArray).size = 1 from rfl]; omega)
              obtain ⟨O1, hO1⟩ : ∃ O1, O1 = O ++ (⟨#[58]⟩ : ByteArray) := ⟨_, rfl⟩
              have z1 : O1.size ≤ 101 := by rw [hO1, ByteArray.size_append, show (⟨#[58]⟩ : ByteArray).size = 1 from rfl]; omega
              rw [← hO1] at a1
              have a2 : ∀ w, (Op.stringOp .add O1 E).run Tryz.prog w = .ok (.string (O1 ++ E)) w := fun w => run_string_add_sum w _ _ (by omega)
              have HF := Lib.hid (show O1 ++ E = mkB (out ++ [58] ++ hexL m) by rw [hO1, HO.out, HE.out]; apply ByteArray.ext; simp [mkB, ByteArray.data_append])
              clear hO1
              clear HST
              try clear hk0
              try clear hbn
              go_wp2_with fail
              refine HI.out.mono ?_
              rintro e w5 ⟨rfl, hb5⟩
              have HB5 := Lib.hid (belowOn HBW2.out HBW2.out.size hb5)
              clear hb5
              go_wp2_with fail
              rw [HF.out]
              go_roundg (8 - (k + 1))
              case measure => have := HM2.out; omega
              case rel => exact ⟨k + 1, _, by omega, rfl, by first | rfl | go_num, rfl, HN.out, HB5.out⟩
          · by_cases hkb : k = b
            · skip
              subst hkb
              have n2 : (2 : Int) ≤ (n : Int) := by omega
              have HN := Lib.hid (pt_skip HPT.out (by omega))
              have a1 : ∀ w, (Op.stringOp .add O ⟨#[58, 58]⟩).run Tryz.prog w = .ok (.string (O ++ (⟨#[58, 58]⟩ : ByteArray))) w := fun w => run_string_add_sum w _ _ (by rw [show (⟨#[58, 58]⟩ : ByteArray).size = 2 from rfl]; omega)
              have HF := Lib.hid (show O ++ (⟨#[58, 58]⟩ : ByteArray) = mkB (out ++ [58, 58]) by rw [HO.out]; apply ByteArray.ext; simp [mkB, ByteArray.data_append])
              clear HST HI
              go_wp2_with fail
              rw [HF.out]
              go_roundg (8 - (k + n))
              case measure => have := HM2.out; omega
              case rel => exact ⟨k + n, _, by omega, rfl, by first | rfl | go_num, rfl, HN.out, HBW2.out⟩
            · by_cases hk0 : k = 0
              · skip
                have k0 : ¬ (0 : Int) < (k : Int) := by omega
                have n2 : (2 : Int) ≤ (n : Int) := by omega
                have n3 : ¬ (n : Int) < 2 := by omega
                have kb : ((k : Int) == (b : Int)) = false := by simp; omega
                have HN := Lib.hid (HST.out (by omega))
                rw [if_neg (by omega)] at HN
                have a2 : ∀ w, (Op.stringOp .add O E).run Tryz.prog w = .ok (.string (O ++ E)) w := fun w => run_string_add_sum w _ _ (by omega)
                have HF := Lib.hid (show O ++ E = mkB (out ++ [] ++ hexL m) by rw [HO.out, HE.out]; apply ByteArray.ext; simp [mkB, ByteArray.data_append])
                clear HST
                try clear hk0
                try clear hbn
                go_wp2_with fail
                refine HI.out.mono ?_
                rintro e w5 ⟨rfl, hb5⟩
                have HB5 := Lib.hid (belowOn HBW2.out HBW2.out.size hb5)
                clear hb5
                go_wp2_with fail
                rw [HF.out]
                go_roundg (8 - (k + 1))
                case measure => have := HM2.out; omega
                case rel => exact ⟨k + 1, _, by omega, rfl, by first | rfl | go_num, rfl, HN.out, HB5.out⟩
              · by_cases hbn : k = b + n
                · skip
                  have k0 : (0 : Int) < (k : Int) := by omega
                  have n2 : (2 : Int) ≤ (n : Int) := by omega
                  have n3 : ¬ (n : Int) < 2 := by omega
                  have kb : ((k : Int) == (b : Int)) = false := by simp; omega
                  have kn : ((k : Int) == (b : Int) + (n : Int)) = true := by simp; omega
                  have HN := Lib.hid (HST.out (by omega))
                  rw [if_neg (by omega)] at HN
                  have a2 : ∀ w, (Op.stringOp .add O E).run Tryz.prog w = .ok (.string (O ++ E)) w := fun w => run_string_add_sum w _ _ (by omega)
                  have HF := Lib.hid (show O ++ E = mkB (out ++ [] ++ hexL m) by rw [HO.out, HE.out]; apply ByteArray.ext; simp [mkB, ByteArray.data_append])
                  clear HST
                  try clear hk0
                  try clear hbn
                  go_wp2_with fail
                  refine HI.out.mono ?_
                  rintro e w5 ⟨rfl, hb5⟩
                  have HB5 := Lib.hid (belowOn HBW2.out HBW2.out.size hb5)
                  clear hb5
                  go_wp2_with fail
                  rw [HF.out]
                  go_roundg (8 - (k + 1))
                  case measure => have := HM2.out; omega
                  case rel => exact ⟨k + 1, _, by omega, rfl, by first | rfl | go_num, rfl, HN.out, HB5.out⟩
                · skip
                  have k0 : (0 : Int) < (k : Int) := by omega
                  have n2 : (2 : Int) ≤ (n : Int) := by omega
                  have n3 : ¬ (n : Int) < 2 := by omega
                  have kb : ((k : Int) == (b : Int)) = false := by simp; omega
                  have kn : ((k : Int) == (b : Int) + (n : Int)) = false := by simp; omega
                  have HN := Lib.hid (HST.out (by omega))
                  rw [if_pos (by omega)] at HN
                  have a1 : ∀ w, (Op.stringOp .add O ⟨#[58]⟩).run Tryz.prog w = .ok (.string (O ++ (⟨#[58]⟩ : ByteArray))) w := fun w => run_string_add_sum w _ _ (by rw [show (⟨#[58]⟩ : ByteArray).size = 1 from rfl]; omega)
                  obtain ⟨O1, hO1⟩ : ∃ O1, O1 = O ++ (⟨#[58]⟩ : ByteArray) := ⟨_, rfl⟩
                  have z1 : O1.size ≤ 101 := by rw [hO1, ByteArray.size_append, show (⟨#[58]⟩ : ByteArray).size = 1 from rfl]; omega
                  rw [← hO1] at a1
                  have a2 : ∀ w, (Op.stringOp .add O1 E).run Tryz.prog w = .ok (.string (O1 ++ E)) w := fun w => run_string_add_sum w _ _ (by omega)
                  have HF := Lib.hid (show O1 ++ E = mkB (out ++ [58] ++ hexL m) by rw [hO1, HO.out, HE.out]; apply ByteArray.ext; simp [mkB, ByteArray.data_append])
                  clear hO1
                  clear HST
                  try clear hk0
                  try clear hbn
                  go_wp2_with fail
                  refine HI.out.mono ?_
                  rintro e w5 ⟨rfl, hb5⟩
                  have HB5 := Lib.hid (belowOn HBW2.out HBW2.out.size hb5)
                  clear hb5
                  go_wp2_with fail
                  rw [HF.out]
                  go_roundg (8 - (k + 1))
                  case measure => have := HM2.out; omega
                  case rel => exact ⟨k + 1, _, by omega, rfl, by first | rfl | go_num, rfl, HN.out, HB5.out⟩
        · obtain rfl : k = 8 := by omega
          have HE := Lib.hid (pt_end HX.out (by omega) hb7 HPT.out HBL.out)
          go_wp2_with fail
          go_ret
          rw [HE.out]
          exact ⟨rfl, belowOn HB.out HB.out.size HBW2.out⟩
end Go.Proofs.YtodpjdeffhbkpaaGreatDoor
