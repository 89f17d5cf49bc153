-- Written by wip/myprint.py, a program of this session, out of the translation. Lean checks it.
import Derived.Test.YtcclghpoodbdcaaGreatDoorPFourx0
import Derived.Test.YtcclghpoodbdcaaGreatDoorPFourx1
namespace Go.Proofs.YtcclghpoodbdcaaGreatDoor.PFour
open Go.RowKit Go.Proofs.YtcclghpoodbdcaaGreatDoorW.PrintWords Go.Proofs.YtcclghpoodbdcaaGreatDoorW.PrintLast Go.Proofs.YtcclghpoodbdcaaGreatDoorW.PrintMore
open Go.Proofs.YtcclghpoodbdcaaGreatDoor
attribute [local go_sem] max2_int min2_int max_two min_two max_three min_three max_four min_four   -- for this text's walks alone
set_option linter.unusedVariables false
set_option linter.unusedSimpArgs false

/-! ### gatepostref07_number: function 16 -/
mutual
def gatepostref07_number.j0 : Nat → ByteArray → Int → Int → Bool → Option (Int)
  | 0, _, _, _, _ => none
  | k + 1, x0, x3, x4, x28 => if x28 = true then (gatepostref07_number.j1 k x0 16 2) else (if (x0.size : Int) > 1 then (if 0 < (x0.size : Int) then (if (bt x0 0) = 48 then (gatepostref07_number.j1 k x0 8 1) else (gatepostref07_number.j1 k x0 x3 x4)) else (none)) else (gatepostref07_number.j1 k x0 x3 x4))
def gatepostref07_number.j1 : Nat → ByteArray → Int → Int → Option (Int)
  | 0, _, _, _ => none
  | k + 1, x0, x3, x4 => gatepostref07_number.l0 k x0 x3 0 x4
def gatepostref07_number.l0 : Nat → ByteArray → Int → Int → Int → Option (Int)
  | 0, _, _, _, _ => none
  | k + 1, x0, x3, x5, x6 => if x6 < (x0.size : Int) then (if 0 ≤ x6 then ((gatepostref03_Value.f k (bt x0 x6)).bind fun t114 => (if t114 < 0 then (gatepostref07_number.j3 k x0 x3 x5 x6 t114 true) else (gatepostref07_number.j3 k x0 x3 x5 x6 t114 (decide (t114 ≥ x3))))) else (none)) else (some x5)
def gatepostref07_number.j3 : Nat → ByteArray → Int → Int → Int → Int → Bool → Option (Int)
  | 0, _, _, _, _, _, _ => none
  | k + 1, x0, x3, x5, x6, x7, x54 => if x54 = true then (some (-1)) else (if (wrap64 ((wrap64 (x5 * x3)) + x7)) > 1099511627776 then (gatepostref07_number.l0 k x0 x3 1099511627776 (wrap64 (x6 + 1))) else (gatepostref07_number.l0 k x0 x3 (wrap64 ((wrap64 (x5 * x3)) + x7)) (wrap64 (x6 + 1))))
end
def gatepostref07_number.f (k : Nat) (a0 : ByteArray) : Option (Int) := if (a0.size : Int) = 0 then (some (-1)) else (if (a0.size : Int) > 1 then (if 0 < (a0.size : Int) then (if (bt a0 0) = 48 then (if 1 < (a0.size : Int) then (if (bt a0 1) = 120 then (gatepostref07_number.j0 k a0 10 0 true) else (gatepostref07_number.j0 k a0 10 0 ((bt a0 1) == 88))) else (none)) else (gatepostref07_number.j0 k a0 10 0 false)) else (none)) else (gatepostref07_number.j0 k a0 10 0 false))
theorem gatepostref07_number.mono_l : ∀ k, (∀ y0 y1 y2 y3, LeO (gatepostref07_number.j0 k y0 y1 y2 y3) (gatepostref07_number.j0 (k + 1) y0 y1 y2 y3)) ∧ (∀ y0 y1 y2, LeO (gatepostref07_number.j1 k y0 y1 y2) (gatepostref07_number.j1 (k + 1) y0 y1 y2)) ∧ (∀ y0 y1 y2 y3, LeO (gatepostref07_number.l0 k y0 y1 y2 y3) (gatepostref07_number.l0 (k + 1) y0 y1 y2 y3)) ∧ (∀ y0 y1 y2 y3 y4 y5, LeO (gatepostref07_number.j3 k y0 y1 y2 y3 y4 y5) (gatepostref07_number.j3 (k + 1) y0 y1 y2 y3 y4 y5))
  | 0 => ⟨fun _ _ _ _ r h => by simp [gatepostref07_number.j0] at h, fun _ _ _ r h => by simp [gatepostref07_number.j1] at h, fun _ _ _ _ r h => by simp [gatepostref07_number.l0] at h, fun _ _ _ _ _ _ r h => by simp [gatepostref07_number.j3] at h⟩
  | k + 1 => by
    obtain ⟨ih0, ih1, ih2, ih3⟩ := gatepostref07_number.mono_l k
    refine ⟨?_, ?_, ?_, ?_⟩
    · intro y0 y1 y2 y3
      unfold gatepostref07_number.j0
      repeat' first
      | (with_reducible exact ih0 _ _ _ _)
      | (with_reducible exact ih1 _ _ _)
      | (with_reducible exact ih2 _ _ _ _)
      | (with_reducible exact ih3 _ _ _ _ _ _)
      | (with_reducible exact gatepostref03_Value.mono _ _)
      | (with_reducible exact LeO.refl _)
      | (with_reducible exact LeO.none _)
      | (with_reducible refine LeO.ite ?_ ?_)
      | (with_reducible refine LeO.bind ?_ (fun _ => ?_))
      | exact ih0 _ _ _ _
      | exact ih1 _ _ _
      | exact ih2 _ _ _ _
      | exact ih3 _ _ _ _ _ _
      | exact gatepostref03_Value.mono _ _
      | exact LeO.none _
      | refine LeO.ite ?_ ?_
      | refine LeO.bind ?_ (fun _ => ?_)
    · intro y0 y1 y2
      unfold gatepostref07_number.j1
      repeat' first
      | (with_reducible exact ih0 _ _ _ _)
      | (with_reducible exact ih1 _ _ _)
      | (with_reducible exact ih2 _ _ _ _)
      | (with_reducible exact ih3 _ _ _ _ _ _)
      | (with_reducible exact gatepostref03_Value.mono _ _)
      | (with_reducible exact LeO.refl _)
      | (with_reducible exact LeO.none _)
      | (with_reducible refine LeO.ite ?_ ?_)
      | (with_reducible refine LeO.bind ?_ (fun _ => ?_))
      | exact ih0 _ _ _ _
      | exact ih1 _ _ _
      | exact ih2 _ _ _ _
      | exact ih3 _ _ _ _ _ _
      | exact gatepostref03_Value.mono _ _
      | exact LeO.none _
      | refine LeO.ite ?_ ?_
      | refine LeO.bind ?_ (fun _ => ?_)
    · intro y0 y1 y2 y3
      unfold gatepostref07_number.l0
      repeat' first
      | (with_reducible exact ih0 _ _ _ _)
      | (with_reducible exact ih1 _ _ _)
      | (with_reducible exact ih2 _ _ _ _)
      | (with_reducible exact ih3 _ _ _ _ _ _)
      | (with_reducible exact gatepostref03_Value.mono _ _)
      | (with_reducible exact LeO.refl _)
      | (with_reducible exact LeO.none _)
      | (with_reducible refine LeO.ite ?_ ?_)
      | (with_reducible refine LeO.bind ?_ (fun _ => ?_))
      | exact ih0 _ _ _ _
      | exact ih1 _ _ _
      | exact ih2 _ _ _ _
      | exact ih3 _ _ _ _ _ _
      | exact gatepostref03_Value.mono _ _
      | exact LeO.none _
      | refine LeO.ite ?_ ?_
      | refine LeO.bind ?_ (fun _ => ?_)
    · intro y0 y1 y2 y3 y4 y5
      unfold gatepostref07_number.j3
      repeat' first
      | (with_reducible exact ih0 _ _ _ _)
      | (with_reducible exact ih1 _ _ _)
      | (with_reducible exact ih2 _ _ _ _)
      | (with_reducible exact ih3 _ _ _ _ _ _)
      | (with_reducible exact gatepostref03_Value.mono _ _)
      | (with_reducible exact LeO.refl _)
      | (with_reducible exact LeO.none _)
      | (with_reducible refine LeO.ite ?_ ?_)
      | (with_reducible refine LeO.bind ?_ (fun _ => ?_))
      | exact ih0 _ _ _ _
      | exact ih1 _ _ _
      | exact ih2 _ _ _ _
      | exact ih3 _ _ _ _ _ _
      | exact gatepostref03_Value.mono _ _
      | exact LeO.none _
      | refine LeO.ite ?_ ?_
      | refine LeO.bind ?_ (fun _ => ?_)
theorem gatepostref07_number.mono : ∀ a0 k, LeO (gatepostref07_number.f k a0) (gatepostref07_number.f (k + 1) a0) := by
  intro a0 k
  obtain ⟨ih0, ih1, ih2, ih3⟩ := gatepostref07_number.mono_l k
  unfold gatepostref07_number.f
  repeat' first
      | (with_reducible exact ih0 _ _ _ _)
      | (with_reducible exact ih1 _ _ _)
      | (with_reducible exact ih2 _ _ _ _)
      | (with_reducible exact ih3 _ _ _ _ _ _)
      | (with_reducible exact gatepostref03_Value.mono _ _)
      | (with_reducible exact LeO.refl _)
      | (with_reducible exact LeO.none _)
      | (with_reducible refine LeO.ite ?_ ?_)
      | (with_reducible refine LeO.bind ?_ (fun _ => ?_))
      | exact ih0 _ _ _ _
      | exact ih1 _ _ _
      | exact ih2 _ _ _ _
      | exact ih3 _ _ _ _ _ _
      | exact gatepostref03_Value.mono _ _
      | exact LeO.none _
      | refine LeO.ite ?_ ?_
      | refine LeO.bind ?_ (fun _ => ?_)
set_option maxHeartbeats 8000000 in
set_option maxRecDepth 100000 in
theorem gatepostref07_number.calls (k : Nat) (a0 : ByteArray) (r : Int) (w : World) (h : gatepostref07_number.f k a0 = some r) :
    Calls Tryz.prog 16 #[.string a0] w fun e w' => e = .returned (.int .i64 r) ∧ Drawn0 w w' := by
  have H : (if (a0.size : Int) = 0 then (some (-1)) else (if (a0.size : Int) > 1 then (if 0 < (a0.size : Int) then (if (bt a0 0) = 48 then (if 1 < (a0.size : Int) then (if (bt a0 1) = 120 then (gatepostref07_number.j0 k a0 10 0 true) else (gatepostref07_number.j0 k a0 10 0 ((bt a0 1) == 88))) else (none)) else (gatepostref07_number.j0 k a0 10 0 false)) else (none)) else (gatepostref07_number.j0 k a0 10 0 false))) = some r := h
  clear h
  by_cases c2 : (a0.size : Int) = 0
  · rw [if_pos c2] at H
    have c2b0 : ((a0.size : Int) == 0) = true := beq_iff_eq.mpr c2
    have c2b1 : ((a0.size : Int) != 0) = false := bne_eq_false_iff_eq.mpr c2
    clear c2
    obtain rfl := Option.some.inj H
    go_enter Tryz.func16, Tryz.ntmps16
    go_wp2
    go_ret
    exact ⟨by first | rfl | (simp; done) | (simp [*]; done), by repeat (first | exact Drawn0.refl _ | apply Drawn0.step)⟩
  · rw [if_neg c2] at H
    have c2b0 : ((a0.size : Int) == 0) = false := beq_eq_false_iff_ne.mpr c2
    have c2b1 : ((a0.size : Int) != 0) = true := bne_iff_ne.mpr c2
    have HC3 := Aside0.mk H
    clear H
    go_enter Tryz.func16, Tryz.ntmps16
    go_upto_region 5 with (fail)
    go_cut [28] (fun v28 wc => ∃ (kq : Nat) (x28_2 : Bool), v28 = .bool x28_2 ∧ Aside0 (gatepostref07_number.j0 kq a0 10 0 x28_2 = some r) ∧ Aside0 (kq ≤ k) ∧ Drawn0 w wc)
    case first =>
      have H := HC3.out
      clear HC3
      by_cases c4 : (a0.size : Int) > 1
      · rw [if_pos c4] at H
        have c4b0 : decide (1 < (a0.size : Int)) = true := decide_eq_true c4
        have c4b1 : decide (1 < a0.size) = true := decide_eq_true (by omega)
        clear c4
        (first | rw [c4b0] | (simp only [i64_w, i32_w]; rw [c4b0]) | skip)
        by_cases c5 : 0 < (a0.size : Int)
        · rw [if_pos c5] at H
          have c5b0 : decide (0 < (a0.size : Int)) = true := decide_eq_true c5
          have c5b1 : decide (0 < a0.size) = true := decide_eq_true (by omega)
          clear c5
          by_cases c7 : (bt a0 0) = 48
          · rw [if_pos c7] at H
            have c7b0 : ((bt a0 0) == 48) = true := beq_iff_eq.mpr c7
            have c7b1 : ((bt a0 0) != 48) = false := bne_eq_false_iff_eq.mpr c7
            clear c7
            by_cases c8 : 1 < (a0.size : Int)
            · rw [if_pos c8] at H
              have c8b0 : decide (1 < (a0.size : Int)) = true := decide_eq_true c8
              have c8b1 : decide (1 < a0.size) = true := decide_eq_true (by omega)
              clear c8
              by_cases c10 : (bt a0 1) = 120
              · rw [if_pos c10] at H
                have c10b0 : ((bt a0 1) == 120) = true := beq_iff_eq.mpr c10
                have c10b1 : ((bt a0 1) != 120) = false := bne_eq_false_iff_eq.mpr c10
                clear c10
                have H' := Aside0.mk H
                clear H
                have p6 : 0 ≤ (0 : Int) := (by omega)
                have q6 : 0 < a0.size := (by have : (0 : Int) < (a0.size : Int) := of_decide_eq_true (by first | (with_reducible assumption) | assumption); omega)
                have hx6 : ∀ h : 0 < a0.size, ((a0[0]'h).toNat : Int) = bt a0 0 := bt_at a0 0
                clear p6
                have qi6 : (0 < (a0.size : Int)) = True := eq_true (of_decide_eq_true (by first | (with_reducible assumption) | assumption))
                replace q6 := eq_true q6
                have p9 : 0 ≤ (1 : Int) := (by omega)
                have q9 : 1 < a0.size := (by have : (1 : Int) < (a0.size : Int) := of_decide_eq_true (by first | (with_reducible assumption) | assumption); omega)
                have hx9 : ∀ h : 1 < a0.size, ((a0[1]'h).toNat : Int) = bt a0 1 := bt_at a0 1
                clear p9
                have qi9 : (1 < (a0.size : Int)) = True := eq_true (of_decide_eq_true (by first | (with_reducible assumption) | assumption))
                replace q9 := eq_true q9
                go_wp2
                go_meet
                case rel => exact ⟨_, (true), (by first | rfl | (simp; done) | (simp [*]; done)), H', ⟨by first | omega | exact Nat.le_refl _⟩, by repeat (first | exact Drawn0.refl _ | apply Drawn0.step)⟩
              · rw [if_neg c10] at H
                have c10b0 : ((bt a0 1) == 120) = false := beq_eq_false_iff_ne.mpr c10
                have c10b1 : ((bt a0 1) != 120) = true := bne_iff_ne.mpr c10
                have H' := Aside0.mk H
                clear H
                have p6 : 0 ≤ (0 : Int) := (by omega)
                have q6 : 0 < a0.size := (by have : (0 : Int) < (a0.size : Int) := of_decide_eq_true (by first | (with_reducible assumption) | assumption); omega)
                have hx6 : ∀ h : 0 < a0.size, ((a0[0]'h).toNat : Int) = bt a0 0 := bt_at a0 0
                clear p6
                have qi6 : (0 < (a0.size : Int)) = True := eq_true (of_decide_eq_true (by first | (with_reducible assumption) | assumption))
                replace q6 := eq_true q6
                have p9 : 0 ≤ (1 : Int) := (by omega)
                have q9 : 1 < a0.size := (by have : (1 : Int) < (a0.size : Int) := of_decide_eq_true (by first | (with_reducible assumption) | assumption); omega)
                have hx9 : ∀ h : 1 < a0.size, ((a0[1]'h).toNat : Int) = bt a0 1 := bt_at a0 1
                clear p9
                have qi9 : (1 < (a0.size : Int)) = True := eq_true (of_decide_eq_true (by first | (with_reducible assumption) | assumption))
                replace q9 := eq_true q9
                have p11 : 0 ≤ (1 : Int) := (by omega)
                have q11 : 1 < a0.size := (by have : (1 : Int) < (a0.size : Int) := of_decide_eq_true (by first | (with_reducible assumption) | assumption); omega)
                have hx11 : ∀ h : 1 < a0.size, ((a0[1]'h).toNat : Int) = bt a0 1 := bt_at a0 1
                clear p11
                have qi11 : (1 < (a0.size : Int)) = True := eq_true (of_decide_eq_true (by first | (with_reducible assumption) | assumption))
                replace q11 := eq_true q11
                go_wp2
                go_meet
                case rel => exact ⟨_, (((bt a0 1) == 88)), (by first | rfl | (simp; done) | (simp [*]; done)), H', ⟨by first | omega | exact Nat.le_refl _⟩, by repeat (first | exact Drawn0.refl _ | apply Drawn0.step)⟩
            · rw [if_neg c8] at H
              exact absurd H (by simp)
          · rw [if_neg c7] at H
            have c7b0 : ((bt a0 0) == 48) = false := beq_eq_false_iff_ne.mpr c7
            have c7b1 : ((bt a0 0) != 48) = true := bne_iff_ne.mpr c7
            have H' := Aside0.mk H
            clear H
            have p6 : 0 ≤ (0 : Int) := (by omega)
            have q6 : 0 < a0.size := (by have : (0 : Int) < (a0.size : Int) := of_decide_eq_true (by first | (with_reducible assumption) | assumption); omega)
            have hx6 : ∀ h : 0 < a0.size, ((a0[0]'h).toNat : Int) = bt a0 0 := bt_at a0 0
            clear p6
            have qi6 : (0 < (a0.size : Int)) = True := eq_true (of_decide_eq_true (by first | (with_reducible assumption) | assumption))
            replace q6 := eq_true q6
            go_wp2
            go_meet
            case rel => exact ⟨_, (false), (by first | rfl | (simp; done) | (simp [*]; done)), H', ⟨by first | omega | exact Nat.le_refl _⟩, by repeat (first | exact Drawn0.refl _ | apply Drawn0.step)⟩
        · rw [if_neg c5] at H
          exact absurd H (by simp)
      · rw [if_neg c4] at H
        have c4b0 : decide (1 < (a0.size : Int)) = false := decide_eq_false c4
        have c4b1 : decide (1 < a0.size) = false := decide_eq_false (by omega)
        clear c4
        (first | rw [c4b0] | (simp only [i64_w, i32_w]; rw [c4b0]) | skip)
        have H' := Aside0.mk H
        clear H
        go_wp2
        go_meet
        case rel => exact ⟨_, (false), (by first | rfl | (simp; done) | (simp [*]; done)), H', ⟨by first | omega | exact Nat.le_refl _⟩, by repeat (first | exact Drawn0.refl _ | apply Drawn0.step)⟩
    case rest =>
      clear HC3
      try clear c1
      try clear p1
      try clear q1
      try clear hx1
      try clear qi1
      try clear c2
      try clear c2b0
      try clear c2b1
      try clear p2
      try clear c4
      try clear c4b0
      try clear c4b1
      try clear c5
      try clear c5b0
      try clear c5b1
      try clear p6
      try clear q6
      try clear hx6
      try clear qi6
      try clear c7
      try clear c7b0
      try clear c7b1
      try clear c8
      try clear c8b0
      try clear c8b1
      try clear p9
      try clear q9
      try clear hx9
      try clear qi9
      try clear c10
      try clear c10b0
      try clear c10b1
      try clear p11
      try clear q11
      try clear hx11
      try clear qi11
      try clear p11
      try clear p6
      try clear p9
      try clear q11
      try clear q6
      try clear q9
      obtain ⟨kq, x28_2, rfl, HA, HJ2, ⟨mc2, rfl⟩⟩ := hcut
      cases kq with
      | zero => exact absurd HA.out (by simp [gatepostref07_number.j0])
      | succ kj2 =>
        have H := HA.out
        clear HA
        simp only [gatepostref07_number.j0] at H
        have HC12 := Aside0.mk H
        clear H
        go_upto_if 28 with (fail)
        go_cut [3, 4] (fun v3 v4 wc => ∃ (kq : Nat) (x3_11 : Int) (x4_11 : Int), v3 = .int .i64 x3_11 ∧ v4 = .int .i64 x4_11 ∧ Aside0 (gatepostref07_number.j1 kq a0 x3_11 x4_11 = some r) ∧ Aside0 (kq ≤ kj2) ∧ Drawn0 w wc)
        case first =>
          have H := HC12.out
          clear HC12
          by_cases c13 : x28_2 = true
          · subst c13
            have H1 : (gatepostref07_number.j1 kj2 a0 16 2) = some r := by rw [if_pos rfl] at H; exact H
            clear H
            have H := H1
            clear H1
            have H' := Aside0.mk H
            clear H
            go_wp2
            go_meet
            case rel => exact ⟨_, (16), (2), (by first | rfl | (simp; done) | (simp [*]; done)), (by first | rfl | (simp; done) | (simp [*]; done)), H', ⟨by have := HJ2.out; first | omega | exact Nat.le_refl _⟩, by repeat (first | exact Drawn0.refl _ | apply Drawn0.step)⟩
          · replace c13 := Bool.eq_false_iff.mpr c13
            subst c13
            have H1 : (if (a0.size : Int) > 1 then (if 0 < (a0.size : Int) then (if (bt a0 0) = 48 then (gatepostref07_number.j1 kj2 a0 8 1) else (gatepostref07_number.j1 kj2 a0 10 0)) else (none)) else (gatepostref07_number.j1 kj2 a0 10 0)) = some r := by rw [if_neg (show ¬ (false = true) by decide)] at H; exact H
            clear H
            have H := H1
            clear H1
            by_cases c14 : (a0.size : Int) > 1
            · rw [if_pos c14] at H
              have c14b0 : decide (1 < (a0.size : Int)) = true := decide_eq_true c14
              have c14b1 : decide (1 < a0.size) = true := decide_eq_true (by omega)
              clear c14
              (first | rw [c14b0] | (simp only [i64_w, i32_w]; rw [c14b0]) | skip)
              by_cases c15 : 0 < (a0.size : Int)
              · rw [if_pos c15] at H
                have c15b0 : decide (0 < (a0.size : Int)) = true := decide_eq_true c15
                have c15b1 : decide (0 < a0.size) = true := decide_eq_true (by omega)
                clear c15
                by_cases c17 : (bt a0 0) = 48
                · rw [if_pos c17] at H
                  have c17b0 : ((bt a0 0) == 48) = true := beq_iff_eq.mpr c17
                  have c17b1 : ((bt a0 0) != 48) = false := bne_eq_false_iff_eq.mpr c17
                  clear c17
                  have H' := Aside0.mk H
                  clear H
                  have p16 : 0 ≤ (0 : Int) := (by omega)
                  have q16 : 0 < a0.size := (by have : (0 : Int) < (a0.size : Int) := of_decide_eq_true (by first | (with_reducible assumption) | assumption); omega)
                  have hx16 : ∀ h : 0 < a0.size, ((a0[0]'h).toNat : Int) = bt a0 0 := bt_at a0 0
                  clear p16
                  have qi16 : (0 < (a0.size : Int)) = True := eq_true (of_decide_eq_true (by first | (with_reducible assumption) | assumption))
                  replace q16 := eq_true q16
                  go_wp2
                  go_meet
                  case rel => exact ⟨_, (8), (1), (by first | rfl | (simp; done) | (simp [*]; done)), (by first | rfl | (simp; done) | (simp [*]; done)), H', ⟨by have := HJ2.out; first | omega | exact Nat.le_refl _⟩, by repeat (first | exact Drawn0.refl _ | apply Drawn0.step)⟩
                · rw [if_neg c17] at H
                  have c17b0 : ((bt a0 0) == 48) = false := beq_eq_false_iff_ne.mpr c17
                  have c17b1 : ((bt a0 0) != 48) = true := bne_iff_ne.mpr c17
                  have H' := Aside0.mk H
                  clear H
                  have p16 : 0 ≤ (0 : Int) := (by omega)
                  have q16 : 0 < a0.size := (by have : (0 : Int) < (a0.size : Int) := of_decide_eq_true (by first | (with_reducible assumption) | assumption); omega)
                  have hx16 : ∀ h : 0 < a0.size, ((a0[0]'h).toNat : Int) = bt a0 0 := bt_at a0 0
                  clear p16
                  have qi16 : (0 < (a0.size : Int)) = True := eq_true (of_decide_eq_true (by first | (with_reducible assumption) | assumption))
                  replace q16 := eq_true q16
                  go_wp2
                  go_meet
                  case rel => exact ⟨_, (10), (0), (by first | rfl | (simp; done) | (simp [*]; done)), (by first | rfl | (simp; done) | (simp [*]; done)), H', ⟨by have := HJ2.out; first | omega | exact Nat.le_refl _⟩, by repeat (first | exact Drawn0.refl _ | apply Drawn0.step)⟩
              · rw [if_neg c15] at H
                exact absurd H (by simp)
            · rw [if_neg c14] at H
              have c14b0 : decide (1 < (a0.size : Int)) = false := decide_eq_false c14
              have c14b1 : decide (1 < a0.size) = false := decide_eq_false (by omega)
              clear c14
              (first | rw [c14b0] | (simp only [i64_w, i32_w]; rw [c14b0]) | skip)
              have H' := Aside0.mk H
              clear H
              go_wp2
              go_meet
              case rel => exact ⟨_, (10), (0), (by first | rfl | (simp; done) | (simp [*]; done)), (by first | rfl | (simp; done) | (simp [*]; done)), H', ⟨by have := HJ2.out; first | omega | exact Nat.le_refl _⟩, by repeat (first | exact Drawn0.refl _ | apply Drawn0.step)⟩
        case rest =>
          clear HC12
          try clear c1
          try clear p1
          try clear q1
          try clear hx1
          try clear qi1
          try clear c2
          try clear c2b0
          try clear c2b1
          try clear p2
          try clear c4
          try clear c4b0
          try clear c4b1
          try clear c5
          try clear c5b0
          try clear c5b1
          try clear p6
          try clear q6
          try clear hx6
          try clear qi6
          try clear c7
          try clear c7b0
          try clear c7b1
          try clear c8
          try clear c8b0
          try clear c8b1
          try clear p9
          try clear q9
          try clear hx9
          try clear qi9
          try clear c10
          try clear c10b0
          try clear c10b1
          try clear p11
          try clear q11
          try clear hx11
          try clear qi11
          try clear c13
          try clear c14
          try clear c14b0
          try clear c14b1
          try clear c15
          try clear c15b0
          try clear c15b1
          try clear c16
          try clear p16
          try clear q16
          try clear hx16
          try clear qi16
          try clear c17
          try clear c17b0
          try clear c17b1
          try clear p1
          try clear p11
          try clear p16
          try clear p2
          try clear p6
          try clear p9
          try clear q1
          try clear q11
          try clear q16
          try clear q6
          try clear q9
          obtain ⟨kq, x3_11, x4_11, rfl, rfl, HA, HJ11, ⟨mc11, rfl⟩⟩ := hcut
          cases kq with
          | zero => exact absurd HA.out (by simp [gatepostref07_number.j1])
          | succ kj11 =>
            have H := HA.out
            clear HA
            simp only [gatepostref07_number.j1] at H
            have H' := Aside0.mk H
            clear H
            go_wp2
            go_loopg [5, 6] kj11 (fun kq v5 v6 w' => ∃ (x5_3 : Int) (x6_3 : Int), v5 = .int .i64 x5_3 ∧ v6 = .int .i64 x6_3 ∧ Aside0 (gatepostref07_number.l0 kq a0 x3_11 x5_3 x6_3 = some r) ∧ Aside0 (kq ≤ kj11) ∧ Drawn0 w w')
            case atStart => exact ⟨(0), (x4_11), (by first | rfl | (simp; done) | (simp [*]; done)), (by first | rfl | (simp; done) | (simp [*]; done)), H', ⟨Nat.le_refl _⟩, by repeat (first | exact Drawn0.refl _ | apply Drawn0.step)⟩
            case round =>
              clear H'
              try clear c1
              try clear p1
              try clear q1
              try clear hx1
              try clear qi1
              try clear c2
              try clear c2b0
              try clear c2b1
              try clear p2
              try clear c4
              try clear c4b0
              try clear c4b1
              try clear c5
              try clear c5b0
              try clear c5b1
              try clear p6
              try clear q6
              try clear hx6
              try clear qi6
              try clear c7
              try clear c7b0
              try clear c7b1
              try clear c8
              try clear c8b0
              try clear c8b1
              try clear p9
              try clear q9
              try clear hx9
              try clear qi9
              try clear c10
              try clear c10b0
              try clear c10b1
              try clear c11
              try clear p11
              try clear q11
              try clear hx11
              try clear qi11
              try clear c13
              try clear c14
              try clear c14b0
              try clear c14b1
              try clear c15
              try clear c15b0
              try clear c15b1
              try clear c16
              try clear p16
              try clear q16
              try clear hx16
              try clear qi16
              try clear c17
              try clear c17b0
              try clear c17b1
              try clear p1
              try clear p11
              try clear p16
              try clear p2
              try clear p6
              try clear p9
              try clear q1
              try clear q11
              try clear q16
              try clear q6
              try clear q9
              obtain ⟨x5_3, x6_3, rfl, rfl, HA, HK3, ⟨m3, rfl⟩⟩ := hrel
              cases gk with
              | zero => exact absurd HA.out (by simp [gatepostref07_number.l0])
              | succ k3 =>
                have H := HA.out
                clear HA
                simp only [gatepostref07_number.l0] at H
                by_cases c18 : x6_3 < (a0.size : Int)
                · rw [if_pos c18] at H
                  have c18b0 : decide (x6_3 < (a0.size : Int)) = true := decide_eq_true c18
                  clear c18
                  by_cases c19 : 0 ≤ x6_3
                  · rw [if_pos c19] at H
                    have c19b0 : decide (0 ≤ x6_3) = true := decide_eq_true c19
                    clear c19
                    replace H := Option.bind_eq_some_iff.mp H
                    obtain ⟨t114, A210, H⟩ := H
                    replace H : (if t114 < 0 then (gatepostref07_number.j3 k3 a0 x3_11 x5_3 x6_3 t114 true) else (gatepostref07_number.j3 k3 a0 x3_11 x5_3 x6_3 t114 (decide (t114 ≥ x3_11)))) = some r := H
                    have A21 := Aside0.mk A210
                    clear A210
                    have HC22 := Aside0.mk H
                    clear H
                    have p20 : 0 ≤ (x6_3 : Int) := of_decide_eq_true (by first | (with_reducible assumption) | assumption)
                    have q20 : x6_3 < (a0.size : Int) := of_decide_eq_true (by first | (with_reducible assumption) | assumption)
                    have hx20 := bt_at a0 x6_3
                    replace p20 := eq_true p20
                    replace q20 := eq_true q20
                    go_upto_region 16 with (first | ((with_reducible refine gate_callee (f := 28) rfl ?_); refine goesL_ (some 47) rfl rfl Tryz.func28 (by kernel_rfl) rfl #[.int .u8 (bt a0 x6_3)] rfl (by (try simp only [List.map_toArray, List.map_cons, List.map_nil]); first | done | rfl | (simp only [List.length_drop, List.length_take]; rfl)) ?_; (with_reducible refine (gatepostref03_Value.calls k3 (bt a0 x6_3) t114 _ A21.out).mono ?_); rintro e w' ⟨rfl, ⟨nd, rfl⟩⟩; refine ⟨_, rfl, ?_⟩))
                    (try simp only [Act.put, List.setIfInBounds_toArray, List.set_cons_zero, List.set_cons_succ])
                    go_cut [54] (fun v54 wc => ∃ (kq : Nat) (x54_21 : Bool), v54 = .bool x54_21 ∧ Aside0 (gatepostref07_number.j3 kq a0 x3_11 x5_3 x6_3 t114 x54_21 = some r) ∧ Aside0 (kq ≤ k3) ∧ Drawn0 w wc)
                    case first =>
                      have H := HC22.out
                      clear HC22
                      by_cases c23 : t114 < 0
                      · rw [if_pos c23] at H
                        have c23b0 : decide (t114 < 0) = true := decide_eq_true c23
                        clear c23
                        (first | rw [c23b0] | (simp only [i64_w, i32_w]; rw [c23b0]) | skip)
                        have H' := Aside0.mk H
                        clear H
                        go_wp2
                        go_meet
                        case rel => exact ⟨_, (true), (by first | rfl | (simp; done) | (simp [*]; done)), H', ⟨by have := HJ2.out; have := HJ11.out; have := HK3.out; first | omega | exact Nat.le_refl _⟩, by repeat (first | exact Drawn0.refl _ | apply Drawn0.step)⟩
                      · rw [if_neg c23] at H
                        have c23b0 : decide (t114 < 0) = false := decide_eq_false c23
                        clear c23
                        (first | rw [c23b0] | (simp only [i64_w, i32_w]; rw [c23b0]) | skip)
                        have H' := Aside0.mk H
                        clear H
                        go_wp2
                        go_meet
                        case rel => exact ⟨_, (decide (t114 ≥ x3_11)), (by first | rfl | (simp; done) | (simp [*]; done)), H', ⟨by have := HJ2.out; have := HJ11.out; have := HK3.out; first | omega | exact Nat.le_refl _⟩, by repeat (first | exact Drawn0.refl _ | apply Drawn0.step)⟩
                    case rest =>
                      clear HC22
                      try clear c1
                      try clear p1
                      try clear q1
                      try clear hx1
                      try clear qi1
                      try clear c2
                      try clear c2b0
                      try clear c2b1
                      try clear p2
                      try clear q2
                      try clear hx2
                      try clear c4
                      try clear c4b0
                      try clear c4b1
                      try clear c5
                      try clear c5b0
                      try clear c5b1
                      try clear p6
                      try clear q6
                      try clear hx6
                      try clear qi6
                      try clear c7
                      try clear c7b0
                      try clear c7b1
                      try clear c8
                      try clear c8b0
                      try clear c8b1
                      try clear p9
                      try clear q9
                      try clear hx9
                      try clear qi9
                      try clear c10
                      try clear c10b0
                      try clear c10b1
                      try clear c11
                      try clear p11
                      try clear q11
                      try clear hx11
                      try clear qi11
                      try clear c13
                      try clear c14
                      try clear c14b0
                      try clear c14b1
                      try clear c15
                      try clear c15b0
                      try clear c15b1
                      try clear c16
                      try clear p16
                      try clear q16
                      try clear hx16
                      try clear qi16
                      try clear c17
                      try clear c17b0
                      try clear c17b1
                      try clear c18
                      try clear c18b0
                      try clear c19
                      try clear c19b0
                      try clear p20
                      try clear q20
                      try clear hx20
                      try clear c23
                      try clear c23b0
                      try clear p1
                      try clear p11
                      try clear p16
                      try clear p2
                      try clear p20
                      try clear p6
                      try clear p9
                      try clear q1
                      try clear q11
                      try clear q16
                      try clear q20
                      try clear q6
                      try clear q9
                      obtain ⟨kq, x54_21, rfl, HA, HJ21, ⟨mc21, rfl⟩⟩ := hcut
                      cases kq with
                      | zero => exact absurd HA.out (by simp [gatepostref07_number.j3])
                      | succ kj21 =>
                        have H := HA.out
                        clear HA
                        simp only [gatepostref07_number.j3] at H
                        by_cases c24 : x54_21 = true
                        · subst c24
                          have H1 : (some (-1)) = some r := by rw [if_pos rfl] at H; exact H
                          clear H
                          have H := H1
                          clear H1
                          obtain rfl := Option.some.inj H
                          go_wp2
                          go_ret
                          exact ⟨by first | rfl | (simp; done) | (simp [*]; done), by repeat (first | exact Drawn0.refl _ | apply Drawn0.step)⟩
                        · replace c24 := Bool.eq_false_iff.mpr c24
                          subst c24
                          have H1 : (if (wrap64 ((wrap64 (x5_3 * x3_11)) + t114)) > 1099511627776 then (gatepostref07_number.l0 kj21 a0 x3_11 1099511627776 (wrap64 (x6_3 + 1))) else (gatepostref07_number.l0 kj21 a0 x3_11 (wrap64 ((wrap64 (x5_3 * x3_11)) + t114)) (wrap64 (x6_3 + 1)))) = some r := by rw [if_neg (show ¬ (false = true) by decide)] at H; exact H
                          clear H
                          have H := H1
                          clear H1
                          by_cases c25 : (wrap64 ((wrap64 (x5_3 * x3_11)) + t114)) > 1099511627776
                          · rw [if_pos c25] at H
                            have c25b0 : decide (1099511627776 < (wrap64 ((wrap64 (x5_3 * x3_11)) + t114))) = true := decide_eq_true c25
                            clear c25
                            have H' := Aside0.mk H
                            clear H
                            go_wp2
                            go_roundg kj21
                            case measure => have := HJ2.out; have := HJ11.out; have := HK3.out; have := HJ21.out; omega
                            case rel => exact ⟨(1099511627776), (wrap64 (x6_3 + 1)), (by first | rfl | (simp; done) | (simp [*]; done)), (by first | rfl | (simp; done) | (simp [*]; done)), H', ⟨by have := HJ2.out; have := HJ11.out; have := HK3.out; have := HJ21.out; omega⟩, by repeat (first | exact Drawn0.refl _ | apply Drawn0.step)⟩
                          · rw [if_neg c25] at H
                            have c25b0 : decide (1099511627776 < (wrap64 ((wrap64 (x5_3 * x3_11)) + t114))) = false := decide_eq_false c25
                            clear c25
                            have H' := Aside0.mk H
                            clear H
                            go_wp2
                            go_roundg kj21
                            case measure => have := HJ2.out; have := HJ11.out; have := HK3.out; have := HJ21.out; omega
                            case rel => exact ⟨(wrap64 ((wrap64 (x5_3 * x3_11)) + t114)), (wrap64 (x6_3 + 1)), (by first | rfl | (simp; done) | (simp [*]; done)), (by first | rfl | (simp; done) | (simp [*]; done)), H', ⟨by have := HJ2.out; have := HJ11.out; have := HK3.out; have := HJ21.out; omega⟩, by repeat (first | exact Drawn0.refl _ | apply Drawn0.step)⟩
                  · rw [if_neg c19] at H
                    exact absurd H (by simp)
                · rw [if_neg c18] at H
                  have c18b0 : decide (x6_3 < (a0.size : Int)) = false := decide_eq_false c18
                  clear c18
                  obtain rfl := Option.some.inj H
                  go_wp2
                  go_ret
                  exact ⟨by first | rfl | (simp; done) | (simp [*]; done), by repeat (first | exact Drawn0.refl _ | apply Drawn0.step)⟩

end Go.Proofs.YtcclghpoodbdcaaGreatDoor.PFour
