-- Written by wip/myprint.py, a program of this session, out of the translation. Lean checks it.
import Derived.Test.YtcclghpoodbdcaaGreatDoorPFourx0
import Derived.Test.YtcclghpoodbdcaaGreatDoorPFourx1
import Derived.Test.YtcclghpoodbdcaaGreatDoorPFourx2
namespace Go.Proofs.YtcclghpoodbdcaaGreatDoor.PFour
open Go.RowKit Go.Proofs.YtcclghpoodbdcaaGreatDoorW.PrintWords Go.Proofs.YtcclghpoodbdcaaGreatDoorW.PrintLast Go.Proofs.YtcclghpoodbdcaaGreatDoorW.PrintMore
open Go.Proofs.YtcclghpoodbdcaaGreatDoor
attribute [local go_sem] max2_int min2_int max_two min_two max_three min_three max_four min_four   -- for this text's walks alone
set_option linter.unusedVariables false
set_option linter.unusedSimpArgs false

/-! ### gatepostref07_Parse: function 6 -/
mutual
def gatepostref07_Parse.l0 : Nat → List ByteArray → Int → Option (Int × Int)
  | 0, _, _ => none
  | k + 1, x4, x5 => if x5 < (x4.length : Int) then (if 0 ≤ x5 then ((gatepostref07_number.f k (rdOf ByteArray.empty x4 x5)).bind fun t119 => (if t119 < 0 then (some (0, 2)) else (gatepostref07_Parse.l0 k x4 (wrap64 (x5 + 1))))) else (none)) else (gatepostref07_Parse.l1 k x4 0 16777216 0)
def gatepostref07_Parse.l1 : Nat → List ByteArray → Int → Int → Int → Option (Int × Int)
  | 0, _, _, _, _ => none
  | k + 1, x4, x6, x7, x8 => if x8 < (wrap64 ((x4.length : Int) - 1)) then (if 0 ≤ x8 then (if x8 < (x4.length : Int) then ((gatepostref07_number.f k (rdOf ByteArray.empty x4 x8)).bind fun t123 => (if t123 > 255 then (some (0, 3)) else ((gatepostref07_number.f k (rdOf ByteArray.empty x4 x8)).bind fun t125 => (gatepostref07_Parse.l1 k x4 (wrap64 (x6 + (wrap64 (t125 * x7)))) (wrap64 (Int.tdiv x7 256)) (wrap64 (x8 + 1)))))) else (none)) else (none)) else (if 0 ≤ (wrap64 ((x4.length : Int) - 1)) then (if (wrap64 ((x4.length : Int) - 1)) < (x4.length : Int) then ((gatepostref07_number.f k (rdOf ByteArray.empty x4 (wrap64 ((x4.length : Int) - 1)))).bind fun t121 => (if t121 ≥ (wrap64 (256 * x7)) then (some (0, 3)) else (some ((wrap64 (x6 + t121)) % 4294967296, 0)))) else (none)) else (none))
end
def gatepostref07_Parse.f (k : Nat) (a0 : ByteArray) : Option (Int × Int) := (gatepostref07_parts.f k a0).bind fun t115 => (if (t115.length : Int) > 4 then (some (0, 2)) else (gatepostref07_Parse.l0 k t115 0))
theorem gatepostref07_Parse.mono_l : ∀ k, (∀ y0 y1, LeO (gatepostref07_Parse.l0 k y0 y1) (gatepostref07_Parse.l0 (k + 1) y0 y1)) ∧ (∀ y0 y1 y2 y3, LeO (gatepostref07_Parse.l1 k y0 y1 y2 y3) (gatepostref07_Parse.l1 (k + 1) y0 y1 y2 y3))
  | 0 => ⟨fun _ _ r h => by simp [gatepostref07_Parse.l0] at h, fun _ _ _ _ r h => by simp [gatepostref07_Parse.l1] at h⟩
  | k + 1 => by
    obtain ⟨ih0, ih1⟩ := gatepostref07_Parse.mono_l k
    refine ⟨?_, ?_⟩
    · intro y0 y1
      unfold gatepostref07_Parse.l0
      repeat' first
      | (with_reducible exact ih0 _ _)
      | (with_reducible exact ih1 _ _ _ _)
      | (with_reducible exact gatepostref07_number.mono _ _)
      | (with_reducible exact gatepostref07_parts.mono _ _)
      | (with_reducible exact LeO.refl _)
      | (with_reducible exact LeO.none _)
      | (with_reducible refine LeO.ite ?_ ?_)
      | (with_reducible refine LeO.bind ?_ (fun _ => ?_))
      | exact ih0 _ _
      | exact ih1 _ _ _ _
      | exact gatepostref07_number.mono _ _
      | exact gatepostref07_parts.mono _ _
      | exact LeO.none _
      | refine LeO.ite ?_ ?_
      | refine LeO.bind ?_ (fun _ => ?_)
    · intro y0 y1 y2 y3
      unfold gatepostref07_Parse.l1
      repeat' first
      | (with_reducible exact ih0 _ _)
      | (with_reducible exact ih1 _ _ _ _)
      | (with_reducible exact gatepostref07_number.mono _ _)
      | (with_reducible exact gatepostref07_parts.mono _ _)
      | (with_reducible exact LeO.refl _)
      | (with_reducible exact LeO.none _)
      | (with_reducible refine LeO.ite ?_ ?_)
      | (with_reducible refine LeO.bind ?_ (fun _ => ?_))
      | exact ih0 _ _
      | exact ih1 _ _ _ _
      | exact gatepostref07_number.mono _ _
      | exact gatepostref07_parts.mono _ _
      | exact LeO.none _
      | refine LeO.ite ?_ ?_
      | refine LeO.bind ?_ (fun _ => ?_)
theorem gatepostref07_Parse.mono : ∀ a0 k, LeO (gatepostref07_Parse.f k a0) (gatepostref07_Parse.f (k + 1) a0) := by
  intro a0 k
  obtain ⟨ih0, ih1⟩ := gatepostref07_Parse.mono_l k
  unfold gatepostref07_Parse.f
  repeat' first
      | (with_reducible exact ih0 _ _)
      | (with_reducible exact ih1 _ _ _ _)
      | (with_reducible exact gatepostref07_number.mono _ _)
      | (with_reducible exact gatepostref07_parts.mono _ _)
      | (with_reducible exact LeO.refl _)
      | (with_reducible exact LeO.none _)
      | (with_reducible refine LeO.ite ?_ ?_)
      | (with_reducible refine LeO.bind ?_ (fun _ => ?_))
      | exact ih0 _ _
      | exact ih1 _ _ _ _
      | exact gatepostref07_number.mono _ _
      | exact gatepostref07_parts.mono _ _
      | exact LeO.none _
      | refine LeO.ite ?_ ?_
      | refine LeO.bind ?_ (fun _ => ?_)
set_option maxHeartbeats 8000000 in
set_option maxRecDepth 100000 in
theorem gatepostref07_Parse.calls (k : Nat) (a0 : ByteArray) (r1 : Int) (r2 : Int) (w : World) (h : gatepostref07_Parse.f k a0 = some (r1, r2)) :
    Calls Tryz.prog 6 #[.string a0] w fun e w' => e = .returned (.tuple #[.int .u32 r1, .int .i64 r2]) ∧ Below w.heap.size w w' := by
  have HB := Aside0.mk (Below.refl w.heap.size w)
  have H : ((gatepostref07_parts.f k a0).bind fun t115 => (if (t115.length : Int) > 4 then (some (0, 2)) else (gatepostref07_Parse.l0 k t115 0))) = some (r1, r2) := h
  clear h
  replace H := Option.bind_eq_some_iff.mp H
  obtain ⟨t115, A20, H⟩ := H
  replace H : (if (t115.length : Int) > 4 then (some (0, 2)) else (gatepostref07_Parse.l0 k t115 0)) = some (r1, r2) := H
  have A2 := Aside0.mk A20
  clear A20
  by_cases c3 : (t115.length : Int) > 4
  · rw [if_pos c3] at H
    have c3b0 : decide (4 < (t115.length : Int)) = true := decide_eq_true c3
    have c3b1 : decide (4 < t115.length) = true := decide_eq_true (by omega)
    clear c3
    simp only [Option.some.injEq, Prod.mk.injEq] at H
    obtain ⟨rfl, rfl⟩ := H
    go_enter Tryz.func6, Tryz.ntmps6
    go_wp2_with (first | ((with_reducible refine gate_callee (f := 15) rfl ?_); refine goesL_ (some 11) rfl rfl Tryz.func15 (by kernel_rfl) rfl #[.string a0] rfl (by (try simp only [List.map_toArray, List.map_cons, List.map_nil]); first | done | rfl | (simp only [List.length_drop, List.length_take]; rfl)) ?_; (with_reducible refine (gatepostref07_parts.calls k a0 t115 _ A2.out).mono ?_); rintro e w4 ⟨v116, rfl, ho0, hb⟩; refine ⟨_, rfl, ?_⟩; have n0_ := Aside0.mk (Kd.R_lower ho0 (below_size (by repeat (first | (with_reducible first | exact HB.out | apply below_alloc | apply pw_below_drewN | apply below_drew1) | exact HB.out)))); have n1_ := Aside0.mk (below_step (by repeat (first | (with_reducible first | exact HB.out | apply below_alloc | apply pw_below_drewN | apply below_drew1) | exact HB.out)) hb); clear HB; have HO117 := n0_; have HB := n1_; clear n0_ n1_; (try clear hb); (try clear hb2); (try clear hk); (try clear hi); (try clear ho0); obtain ⟨Ao5, co5, eo5⟩ := Kd.R_slice HO117.out; subst eo5))
    go_ret2
    exact ⟨by first | rfl | (simp [errW_none, errW_some] <;> rfl) | (simp [*, errW_none, errW_some] <;> rfl), by repeat (first | (with_reducible first | exact HB.out | apply below_alloc | apply pw_below_drewN | apply below_drew1) | exact HB.out)⟩
  · rw [if_neg c3] at H
    have c3b0 : decide (4 < (t115.length : Int)) = false := decide_eq_false c3
    have c3b1 : decide (4 < t115.length) = false := decide_eq_false (by omega)
    clear c3
    have H' := Aside0.mk H
    clear H
    go_enter Tryz.func6, Tryz.ntmps6
    go_wp2_with (first | ((with_reducible refine gate_callee (f := 15) rfl ?_); refine goesL_ (some 11) rfl rfl Tryz.func15 (by kernel_rfl) rfl #[.string a0] rfl (by (try simp only [List.map_toArray, List.map_cons, List.map_nil]); first | done | rfl | (simp only [List.length_drop, List.length_take]; rfl)) ?_; (with_reducible refine (gatepostref07_parts.calls k a0 t115 _ A2.out).mono ?_); rintro e w6 ⟨v116, rfl, ho0, hb⟩; refine ⟨_, rfl, ?_⟩; have n0_ := Aside0.mk (Kd.R_lower ho0 (below_size (by repeat (first | (with_reducible first | exact HB.out | apply below_alloc | apply pw_below_drewN | apply below_drew1) | exact HB.out)))); have n1_ := Aside0.mk (below_step (by repeat (first | (with_reducible first | exact HB.out | apply below_alloc | apply pw_below_drewN | apply below_drew1) | exact HB.out)) hb); clear HB; have HO117 := n0_; have HB := n1_; clear n0_ n1_; (try clear hb); (try clear hb2); (try clear hk); (try clear hi); (try clear ho0); obtain ⟨Ao7, co7, eo7⟩ := Kd.R_slice HO117.out; subst eo7))
    go_loopg [5] k (fun kq v5 w' => ∃ (x5_1 : Int), v5 = .int .i64 x5_1 ∧ Aside0 (gatepostref07_Parse.l0 kq t115 x5_1 = some (r1, r2)) ∧ Aside0 (kq ≤ k) ∧ Aside0 (Kd.R Kd.string 9 w' w.heap.size (fun _ => True) (.slice Ao7 t115.length co7) t115) ∧ Aside0 (Below w.heap.size w w'))
    case atStart => exact ⟨(0), (by first | rfl | (simp; done) | (simp [*]; done)), H', ⟨Nat.le_refl _⟩, ⟨by (with_reducible repeat (first | apply Kd.R_alloc | apply Kd.R_drewN | apply Kd.R_drew)); exact HO117.out⟩, ⟨by repeat (first | (with_reducible first | exact HB.out | apply below_alloc | apply pw_below_drewN | apply below_drew1) | exact HB.out)⟩⟩
    case round =>
      clear H'
      try clear c1
      try clear p2
      try clear c3
      try clear c3b0
      try clear c3b1
      try clear c6
      obtain ⟨x5_1, rfl, HA, HK1, HO_4, HB⟩ := hrel
      cases gk with
      | zero => exact absurd HA.out (by simp [gatepostref07_Parse.l0])
      | succ k1 =>
        have H := HA.out
        clear HA
        simp only [gatepostref07_Parse.l0] at H
        by_cases c8 : x5_1 < (t115.length : Int)
        · rw [if_pos c8] at H
          have c8b0 : decide (x5_1 < (t115.length : Int)) = true := decide_eq_true c8
          clear c8
          by_cases c9 : 0 ≤ x5_1
          · rw [if_pos c9] at H
            have c9b0 : decide (0 ≤ x5_1) = true := decide_eq_true c9
            clear c9
            replace H := Option.bind_eq_some_iff.mp H
            obtain ⟨t119, A100, H⟩ := H
            replace H : (if t119 < 0 then (some (0, 2)) else (gatepostref07_Parse.l0 k1 t115 (wrap64 (x5_1 + 1)))) = some (r1, r2) := H
            have A10 := Aside0.mk A100
            clear A100
            by_cases c11 : t119 < 0
            · rw [if_pos c11] at H
              have c11b0 : decide (t119 < 0) = true := decide_eq_true c11
              clear c11
              simp only [Option.some.injEq, Prod.mk.injEq] at H
              obtain ⟨rfl, rfl⟩ := H
              have p118 : 0 ≤ (x5_1 : Int) := of_decide_eq_true (by first | (with_reducible assumption) | assumption)
              have q118 : x5_1 < (t115.length : Int) := of_decide_eq_true (by first | (with_reducible assumption) | assumption)
              obtain ⟨ad118, e118, hx118_0⟩ := Kd.at_string (Kd.R_reads' HO_4.out).2.2 x5_1 p118 q118
              cases e118
              replace p118 := eq_true p118
              replace q118 := eq_true q118
              go_wp2_with (first | ((with_reducible refine gate_callee (f := 16) rfl ?_); refine goesL_ (some 25) rfl rfl Tryz.func16 (by kernel_rfl) rfl #[.string (rdOf ByteArray.empty t115 x5_1)] rfl (by (try simp only [List.map_toArray, List.map_cons, List.map_nil]); first | done | rfl | (simp only [List.length_drop, List.length_take]; rfl)) ?_; (with_reducible refine (gatepostref07_number.calls k1 (rdOf ByteArray.empty t115 x5_1) t119 _ A10.out).mono ?_); rintro e w' ⟨rfl, ⟨nd, rfl⟩⟩; refine ⟨_, rfl, ?_⟩))
              go_ret2
              exact ⟨by first | rfl | (simp [errW_none, errW_some] <;> rfl) | (simp [*, errW_none, errW_some] <;> rfl), by repeat (first | (with_reducible first | exact HB.out | apply below_alloc | apply pw_below_drewN | apply below_drew1) | exact HB.out)⟩
            · rw [if_neg c11] at H
              have c11b0 : decide (t119 < 0) = false := decide_eq_false c11
              clear c11
              have H' := Aside0.mk H
              clear H
              have p118 : 0 ≤ (x5_1 : Int) := of_decide_eq_true (by first | (with_reducible assumption) | assumption)
              have q118 : x5_1 < (t115.length : Int) := of_decide_eq_true (by first | (with_reducible assumption) | assumption)
              obtain ⟨ad118, e118, hx118_0⟩ := Kd.at_string (Kd.R_reads' HO_4.out).2.2 x5_1 p118 q118
              cases e118
              replace p118 := eq_true p118
              replace q118 := eq_true q118
              go_wp2_with (first | ((with_reducible refine gate_callee (f := 16) rfl ?_); refine goesL_ (some 25) rfl rfl Tryz.func16 (by kernel_rfl) rfl #[.string (rdOf ByteArray.empty t115 x5_1)] rfl (by (try simp only [List.map_toArray, List.map_cons, List.map_nil]); first | done | rfl | (simp only [List.length_drop, List.length_take]; rfl)) ?_; (with_reducible refine (gatepostref07_number.calls k1 (rdOf ByteArray.empty t115 x5_1) t119 _ A10.out).mono ?_); rintro e w' ⟨rfl, ⟨nd, rfl⟩⟩; refine ⟨_, rfl, ?_⟩))
              go_roundg k1
              case measure => have := HK1.out; omega
              case rel => exact ⟨(wrap64 (x5_1 + 1)), (by first | rfl | (simp; done) | (simp [*]; done)), H', ⟨by have := HK1.out; omega⟩, ⟨by (with_reducible repeat (first | apply Kd.R_alloc | apply Kd.R_drewN | apply Kd.R_drew)); exact HO_4.out⟩, ⟨by repeat (first | (with_reducible first | exact HB.out | apply below_alloc | apply pw_below_drewN | apply below_drew1) | exact HB.out)⟩⟩
          · rw [if_neg c9] at H
            exact absurd H (by simp)
        · rw [if_neg c8] at H
          have c8b0 : decide (x5_1 < (t115.length : Int)) = false := decide_eq_false c8
          clear c8
          have H' := Aside0.mk H
          clear H
          go_wp2
          go_loopg [6, 7, 8] k1 (fun kq v6 v7 v8 w' => ∃ (x6_2 : Int) (x7_2 : Int) (x8_2 : Int), v6 = .int .i64 x6_2 ∧ v7 = .int .i64 x7_2 ∧ v8 = .int .i64 x8_2 ∧ Aside0 (gatepostref07_Parse.l1 kq t115 x6_2 x7_2 x8_2 = some (r1, r2)) ∧ Aside0 (kq ≤ k1) ∧ Aside0 (Kd.R Kd.string 9 w' w.heap.size (fun _ => True) (.slice Ao7 t115.length co7) t115) ∧ Aside0 (Below w.heap.size w w'))
          case atStart => exact ⟨(0), (16777216), (0), (by first | rfl | (simp; done) | (simp [*]; done)), (by first | rfl | (simp; done) | (simp [*]; done)), (by first | rfl | (simp; done) | (simp [*]; done)), H', ⟨Nat.le_refl _⟩, ⟨by (with_reducible repeat (first | apply Kd.R_alloc | apply Kd.R_drewN | apply Kd.R_drew)); exact HO_4.out⟩, ⟨by repeat (first | (with_reducible first | exact HB.out | apply below_alloc | apply pw_below_drewN | apply below_drew1) | exact HB.out)⟩⟩
          case round =>
            clear H'
            try clear c1
            try clear p1
            try clear q1
            try clear hx1
            try clear p2
            try clear c3
            try clear c3b0
            try clear c3b1
            try clear c6
            try clear p6
            try clear c8
            try clear c8b0
            try clear c9
            try clear c9b0
            try clear c11
            try clear c11b0
            try clear p11
            try clear q11
            try clear hx11
            try clear hx118_0
            try clear p118
            try clear p2
            try clear q118
            obtain ⟨x6_2, x7_2, x8_2, rfl, rfl, rfl, HA, HK2, HO_4, HB⟩ := hrel
            cases gk with
            | zero => exact absurd HA.out (by simp [gatepostref07_Parse.l1])
            | succ k2 =>
              have H := HA.out
              clear HA
              simp only [gatepostref07_Parse.l1] at H
              by_cases c12 : x8_2 < (wrap64 ((t115.length : Int) - 1))
              · rw [if_pos c12] at H
                have c12b0 : decide (x8_2 < (wrap64 ((t115.length : Int) - 1))) = true := decide_eq_true c12
                clear c12
                by_cases c13 : 0 ≤ x8_2
                · rw [if_pos c13] at H
                  have c13b0 : decide (0 ≤ x8_2) = true := decide_eq_true c13
                  clear c13
                  by_cases c14 : x8_2 < (t115.length : Int)
                  · rw [if_pos c14] at H
                    have c14b0 : decide (x8_2 < (t115.length : Int)) = true := decide_eq_true c14
                    clear c14
                    replace H := Option.bind_eq_some_iff.mp H
                    obtain ⟨t123, A150, H⟩ := H
                    replace H : (if t123 > 255 then (some (0, 3)) else ((gatepostref07_number.f k2 (rdOf ByteArray.empty t115 x8_2)).bind fun t125 => (gatepostref07_Parse.l1 k2 t115 (wrap64 (x6_2 + (wrap64 (t125 * x7_2)))) (wrap64 (Int.tdiv x7_2 256)) (wrap64 (x8_2 + 1))))) = some (r1, r2) := H
                    have A15 := Aside0.mk A150
                    clear A150
                    by_cases c16 : t123 > 255
                    · rw [if_pos c16] at H
                      have c16b0 : decide (255 < t123) = true := decide_eq_true c16
                      clear c16
                      simp only [Option.some.injEq, Prod.mk.injEq] at H
                      obtain ⟨rfl, rfl⟩ := H
                      have p122 : 0 ≤ (x8_2 : Int) := of_decide_eq_true (by first | (with_reducible assumption) | assumption)
                      have q122 : x8_2 < (t115.length : Int) := of_decide_eq_true (by first | (with_reducible assumption) | assumption)
                      obtain ⟨ad122, e122, hx122_0⟩ := Kd.at_string (Kd.R_reads' HO_4.out).2.2 x8_2 p122 q122
                      cases e122
                      replace p122 := eq_true p122
                      replace q122 := eq_true q122
                      go_wp2_with (first | ((with_reducible refine gate_callee (f := 16) rfl ?_); refine goesL_ (some 38) rfl rfl Tryz.func16 (by kernel_rfl) rfl #[.string (rdOf ByteArray.empty t115 x8_2)] rfl (by (try simp only [List.map_toArray, List.map_cons, List.map_nil]); first | done | rfl | (simp only [List.length_drop, List.length_take]; rfl)) ?_; (with_reducible refine (gatepostref07_number.calls k2 (rdOf ByteArray.empty t115 x8_2) t123 _ A15.out).mono ?_); rintro e w' ⟨rfl, ⟨nd, rfl⟩⟩; refine ⟨_, rfl, ?_⟩))
                      go_ret2
                      exact ⟨by first | rfl | (simp [errW_none, errW_some] <;> rfl) | (simp [*, errW_none, errW_some] <;> rfl), by repeat (first | (with_reducible first | exact HB.out | apply below_alloc | apply pw_below_drewN | apply below_drew1) | exact HB.out)⟩
                    · rw [if_neg c16] at H
                      have c16b0 : decide (255 < t123) = false := decide_eq_false c16
                      clear c16
                      replace H := Option.bind_eq_some_iff.mp H
                      obtain ⟨t125, A170, H⟩ := H
                      replace H : (gatepostref07_Parse.l1 k2 t115 (wrap64 (x6_2 + (wrap64 (t125 * x7_2)))) (wrap64 (Int.tdiv x7_2 256)) (wrap64 (x8_2 + 1))) = some (r1, r2) := H
                      have A17 := Aside0.mk A170
                      clear A170
                      have H' := Aside0.mk H
                      clear H
                      have p122 : 0 ≤ (x8_2 : Int) := of_decide_eq_true (by first | (with_reducible assumption) | assumption)
                      have q122 : x8_2 < (t115.length : Int) := of_decide_eq_true (by first | (with_reducible assumption) | assumption)
                      obtain ⟨ad122, e122, hx122_0⟩ := Kd.at_string (Kd.R_reads' HO_4.out).2.2 x8_2 p122 q122
                      cases e122
                      replace p122 := eq_true p122
                      replace q122 := eq_true q122
                      go_wp2_with (first | ((with_reducible refine gate_callee (f := 16) rfl ?_); refine goesL_ (some 38) rfl rfl Tryz.func16 (by kernel_rfl) rfl #[.string (rdOf ByteArray.empty t115 x8_2)] rfl (by (try simp only [List.map_toArray, List.map_cons, List.map_nil]); first | done | rfl | (simp only [List.length_drop, List.length_take]; rfl)) ?_; (with_reducible refine (gatepostref07_number.calls k2 (rdOf ByteArray.empty t115 x8_2) t123 _ A15.out).mono ?_); rintro e w' ⟨rfl, ⟨nd, rfl⟩⟩; refine ⟨_, rfl, ?_⟩; have p124 : 0 ≤ (x8_2 : Int) := of_decide_eq_true (by first | (with_reducible assumption) | assumption); have q124 : x8_2 < (t115.length : Int) := of_decide_eq_true (by first | (with_reducible assumption) | assumption); obtain ⟨ad124, e124, hx124_0⟩ := Kd.at_string (Kd.R_reads' HO_4.out).2.2 x8_2 p124 q124; obtain rfl : ad122 = ad124 := (by injection e124); replace p124 := eq_true p124; replace q124 := eq_true q124) | ((with_reducible refine gate_callee (f := 16) rfl ?_); refine goesL_ (some 45) rfl rfl Tryz.func16 (by kernel_rfl) rfl #[.string (rdOf ByteArray.empty t115 x8_2)] rfl (by (try simp only [List.map_toArray, List.map_cons, List.map_nil]); first | done | rfl | (simp only [List.length_drop, List.length_take]; rfl)) ?_; (with_reducible refine (gatepostref07_number.calls k2 (rdOf ByteArray.empty t115 x8_2) t125 _ A17.out).mono ?_); rintro e w' ⟨rfl, ⟨nd, rfl⟩⟩; refine ⟨_, rfl, ?_⟩))
                      go_roundg k2
                      case measure => have := HK1.out; have := HK2.out; omega
                      case rel => exact ⟨(wrap64 (x6_2 + (wrap64 (t125 * x7_2)))), (wrap64 (Int.tdiv x7_2 256)), (wrap64 (x8_2 + 1)), (by first | rfl | (simp; done) | (simp [*]; done)), (by first | rfl | (simp; done) | (simp [*]; done)), (by first | rfl | (simp; done) | (simp [*]; done)), H', ⟨by have := HK1.out; have := HK2.out; omega⟩, ⟨by (with_reducible repeat (first | apply Kd.R_alloc | apply Kd.R_drewN | apply Kd.R_drew)); exact HO_4.out⟩, ⟨by repeat (first | (with_reducible first | exact HB.out | apply below_alloc | apply pw_below_drewN | apply below_drew1) | exact HB.out)⟩⟩
                  · rw [if_neg c14] at H
                    exact absurd H (by simp)
                · rw [if_neg c13] at H
                  exact absurd H (by simp)
              · rw [if_neg c12] at H
                have c12b0 : decide (x8_2 < (wrap64 ((t115.length : Int) - 1))) = false := decide_eq_false c12
                clear c12
                obtain ⟨ji18, hji18⟩ : ∃ j_ : Int, (wrap64 ((t115.length : Int) - 1)) = j_ := ⟨_, rfl⟩
                replace H : (if 0 ≤ (ji18) then (if (ji18) < (t115.length : Int) then ((gatepostref07_number.f k2 (rdOf ByteArray.empty t115 (ji18))).bind fun t121 => (if t121 ≥ (wrap64 (256 * x7_2)) then (some (0, 3)) else (some ((wrap64 (x6_2 + t121)) % 4294967296, 0)))) else (none)) else (none)) = some (r1, r2) := by first | (rw [hji18] at H; exact H) | (simp only [hji18] at H ⊢; exact H)
                (try rw [hji18] at c12b0)
                have hji18w : (IntKind.i64.wrap ((t115.length : Int) - 1)) = ji18 := (i64_w _).trans hji18
                by_cases c19 : 0 ≤ (ji18)
                · rw [if_pos c19] at H
                  have c19b0 : decide (0 ≤ (ji18)) = true := decide_eq_true c19
                  clear c19
                  by_cases c20 : (ji18) < (t115.length : Int)
                  · rw [if_pos c20] at H
                    have c20b0 : decide ((ji18) < (t115.length : Int)) = true := decide_eq_true c20
                    clear c20
                    replace H := Option.bind_eq_some_iff.mp H
                    obtain ⟨t121, A210, H⟩ := H
                    replace H : (if t121 ≥ (wrap64 (256 * x7_2)) then (some (0, 3)) else (some ((wrap64 (x6_2 + t121)) % 4294967296, 0))) = some (r1, r2) := H
                    have A21 := Aside0.mk A210
                    clear A210
                    by_cases c22 : t121 ≥ (wrap64 (256 * x7_2))
                    · rw [if_pos c22] at H
                      have c22b0 : decide ((wrap64 (256 * x7_2)) ≤ t121) = true := decide_eq_true c22
                      clear c22
                      simp only [Option.some.injEq, Prod.mk.injEq] at H
                      obtain ⟨rfl, rfl⟩ := H
                      have p120 : 0 ≤ ((ji18) : Int) := of_decide_eq_true (by first | (with_reducible assumption) | assumption)
                      have q120 : (ji18) < (t115.length : Int) := of_decide_eq_true (by first | (with_reducible assumption) | assumption)
                      obtain ⟨ad120, e120, hx120_0⟩ := Kd.at_string (Kd.R_reads' HO_4.out).2.2 (ji18) p120 q120
                      cases e120
                      replace p120 := eq_true p120
                      replace q120 := eq_true q120
                      go_wp2_with (first | ((with_reducible refine gate_callee (f := 16) rfl ?_); refine goesL_ (some 57) rfl rfl Tryz.func16 (by kernel_rfl) rfl #[.string (rdOf ByteArray.empty t115 (ji18))] rfl (by (try simp only [List.map_toArray, List.map_cons, List.map_nil]); first | done | (simp only [hji18]; rfl) | rfl | (simp only [List.length_drop, List.length_take]; rfl)) ?_; (with_reducible refine (gatepostref07_number.calls k2 (rdOf ByteArray.empty t115 (ji18)) t121 _ A21.out).mono ?_); rintro e w' ⟨rfl, ⟨nd, rfl⟩⟩; refine ⟨_, rfl, ?_⟩))
                      go_ret2
                      exact ⟨by first | rfl | (simp [errW_none, errW_some] <;> rfl) | (simp only [← hji18]; first | rfl | (simp [errW_none, errW_some] <;> rfl)) | (simp [*, errW_none, errW_some] <;> rfl), by repeat (first | (with_reducible first | exact HB.out | apply below_alloc | apply pw_below_drewN | apply below_drew1) | exact HB.out)⟩
                    · rw [if_neg c22] at H
                      have c22b0 : decide ((wrap64 (256 * x7_2)) ≤ t121) = false := decide_eq_false c22
                      clear c22
                      simp only [Option.some.injEq, Prod.mk.injEq] at H
                      obtain ⟨rfl, rfl⟩ := H
                      have p120 : 0 ≤ ((ji18) : Int) := of_decide_eq_true (by first | (with_reducible assumption) | assumption)
                      have q120 : (ji18) < (t115.length : Int) := of_decide_eq_true (by first | (with_reducible assumption) | assumption)
                      obtain ⟨ad120, e120, hx120_0⟩ := Kd.at_string (Kd.R_reads' HO_4.out).2.2 (ji18) p120 q120
                      cases e120
                      replace p120 := eq_true p120
                      replace q120 := eq_true q120
                      go_wp2_with (first | ((with_reducible refine gate_callee (f := 16) rfl ?_); refine goesL_ (some 57) rfl rfl Tryz.func16 (by kernel_rfl) rfl #[.string (rdOf ByteArray.empty t115 (ji18))] rfl (by (try simp only [List.map_toArray, List.map_cons, List.map_nil]); first | done | (simp only [hji18]; rfl) | rfl | (simp only [List.length_drop, List.length_take]; rfl)) ?_; (with_reducible refine (gatepostref07_number.calls k2 (rdOf ByteArray.empty t115 (ji18)) t121 _ A21.out).mono ?_); rintro e w' ⟨rfl, ⟨nd, rfl⟩⟩; refine ⟨_, rfl, ?_⟩))
                      go_ret2
                      exact ⟨by first | rfl | (simp [errW_none, errW_some] <;> rfl) | (simp only [← hji18]; first | rfl | (simp [errW_none, errW_some] <;> rfl)) | (simp [*, errW_none, errW_some] <;> rfl), by repeat (first | (with_reducible first | exact HB.out | apply below_alloc | apply pw_below_drewN | apply below_drew1) | exact HB.out)⟩
                  · rw [if_neg c20] at H
                    exact absurd H (by simp)
                · rw [if_neg c19] at H
                  exact absurd H (by simp)

/-! ### gatepostref07_Ends: function 9 -/
def gatepostref07_Ends.l0 : Nat → ByteArray → Bool → Int → Option (Bool)
  | 0, _, _, _ => none
  | k + 1, x4, x5, x6 => if x6 < (x4.size : Int) then (if x5 = true then (if 0 ≤ x6 then (if (bt x4 x6) ≥ 48 then (gatepostref07_Ends.l0 k x4 (decide ((bt x4 x6) ≤ 57)) (wrap64 (x6 + 1))) else (gatepostref07_Ends.l0 k x4 false (wrap64 (x6 + 1)))) else (none)) else (gatepostref07_Ends.l0 k x4 false (wrap64 (x6 + 1)))) else (if x5 = true then (some true) else ((gatepostref07_number.f k x4).bind fun t130 => (some (decide (t130 ≥ 0)))))
def gatepostref07_Ends.f (k : Nat) (a0 : ByteArray) : Option (Bool) := (gatepostref07_parts.f k a0).bind fun t126 => (if 0 ≤ (wrap64 ((t126.length : Int) - 1)) then (if (wrap64 ((t126.length : Int) - 1)) < (t126.length : Int) then (gatepostref07_Ends.l0 k (rdOf ByteArray.empty t126 (wrap64 ((t126.length : Int) - 1))) (decide (((rdOf ByteArray.empty t126 (wrap64 ((t126.length : Int) - 1))).size : Int) > 0)) 0) else (none)) else (none))
theorem gatepostref07_Ends.mono_l : ∀ k, (∀ y0 y1 y2, LeO (gatepostref07_Ends.l0 k y0 y1 y2) (gatepostref07_Ends.l0 (k + 1) y0 y1 y2))
  | 0 => fun _ _ _ r h => by simp [gatepostref07_Ends.l0] at h
  | k + 1 => by
    have ih0 := gatepostref07_Ends.mono_l k
    · intro y0 y1 y2
      unfold gatepostref07_Ends.l0
      repeat' first
      | (with_reducible exact ih0 _ _ _)
      | (with_reducible exact gatepostref07_number.mono _ _)
      | (with_reducible exact gatepostref07_parts.mono _ _)
      | (with_reducible exact LeO.refl _)
      | (with_reducible exact LeO.none _)
      | (with_reducible refine LeO.ite ?_ ?_)
      | (with_reducible refine LeO.bind ?_ (fun _ => ?_))
      | exact ih0 _ _ _
      | exact gatepostref07_number.mono _ _
      | exact gatepostref07_parts.mono _ _
      | exact LeO.none _
      | refine LeO.ite ?_ ?_
      | refine LeO.bind ?_ (fun _ => ?_)
theorem gatepostref07_Ends.mono : ∀ a0 k, LeO (gatepostref07_Ends.f k a0) (gatepostref07_Ends.f (k + 1) a0) := by
  intro a0 k
  have ih0 := gatepostref07_Ends.mono_l k
  unfold gatepostref07_Ends.f
  repeat' first
      | (with_reducible exact ih0 _ _ _)
      | (with_reducible exact gatepostref07_number.mono _ _)
      | (with_reducible exact gatepostref07_parts.mono _ _)
      | (with_reducible exact LeO.refl _)
      | (with_reducible exact LeO.none _)
      | (with_reducible refine LeO.ite ?_ ?_)
      | (with_reducible refine LeO.bind ?_ (fun _ => ?_))
      | exact ih0 _ _ _
      | exact gatepostref07_number.mono _ _
      | exact gatepostref07_parts.mono _ _
      | exact LeO.none _
      | refine LeO.ite ?_ ?_
      | refine LeO.bind ?_ (fun _ => ?_)
set_option maxHeartbeats 8000000 in
set_option maxRecDepth 100000 in
theorem gatepostref07_Ends.calls (k : Nat) (a0 : ByteArray) (r : Bool) (w : World) (h : gatepostref07_Ends.f k a0 = some r) :
    Calls Tryz.prog 9 #[.string a0] w fun e w' => e = .returned (.bool r) ∧ Below w.heap.size w w' := by
  have HB := Aside0.mk (Below.refl w.heap.size w)
  have H : ((gatepostref07_parts.f k a0).bind fun t126 => (if 0 ≤ (wrap64 ((t126.length : Int) - 1)) then (if (wrap64 ((t126.length : Int) - 1)) < (t126.length : Int) then (gatepostref07_Ends.l0 k (rdOf ByteArray.empty t126 (wrap64 ((t126.length : Int) - 1))) (decide (((rdOf ByteArray.empty t126 (wrap64 ((t126.length : Int) - 1))).size : Int) > 0)) 0) else (none)) else (none))) = some r := h
  clear h
  replace H := Option.bind_eq_some_iff.mp H
  obtain ⟨t126, A20, H⟩ := H
  replace H : (if 0 ≤ (wrap64 ((t126.length : Int) - 1)) then (if (wrap64 ((t126.length : Int) - 1)) < (t126.length : Int) then (gatepostref07_Ends.l0 k (rdOf ByteArray.empty t126 (wrap64 ((t126.length : Int) - 1))) (decide (((rdOf ByteArray.empty t126 (wrap64 ((t126.length : Int) - 1))).size : Int) > 0)) 0) else (none)) else (none)) = some r := H
  have A2 := Aside0.mk A20
  clear A20
  obtain ⟨ji3, hji3⟩ : ∃ j_ : Int, (wrap64 ((t126.length : Int) - 1)) = j_ := ⟨_, rfl⟩
  replace H : (if 0 ≤ (ji3) then (if (ji3) < (t126.length : Int) then (gatepostref07_Ends.l0 k (rdOf ByteArray.empty t126 (ji3)) (decide (((rdOf ByteArray.empty t126 (ji3)).size : Int) > 0)) 0) else (none)) else (none)) = some r := by first | (rw [hji3] at H; exact H) | (simp only [hji3] at H ⊢; exact H)
  (try rw [hji3] at A2)
  have hji3w : (IntKind.i64.wrap ((t126.length : Int) - 1)) = ji3 := (i64_w _).trans hji3
  by_cases c4 : 0 ≤ (ji3)
  · rw [if_pos c4] at H
    have c4b0 : decide (0 ≤ (ji3)) = true := decide_eq_true c4
    clear c4
    by_cases c5 : (ji3) < (t126.length : Int)
    · rw [if_pos c5] at H
      have c5b0 : decide ((ji3) < (t126.length : Int)) = true := decide_eq_true c5
      clear c5
      have H' := Aside0.mk H
      clear H
      go_enter Tryz.func9, Tryz.ntmps9
      go_wp2_with (first | ((with_reducible refine gate_callee (f := 15) rfl ?_); refine goesL_ (some 8) rfl rfl Tryz.func15 (by kernel_rfl) rfl #[.string a0] rfl (by (try simp only [List.map_toArray, List.map_cons, List.map_nil]); first | done | rfl | (simp only [List.length_drop, List.length_take]; rfl)) ?_; (with_reducible refine (gatepostref07_parts.calls k a0 t126 _ A2.out).mono ?_); rintro e w6 ⟨v127, rfl, ho0, hb⟩; refine ⟨_, rfl, ?_⟩; have n0_ := Aside0.mk (Kd.R_lower ho0 (below_size (by repeat (first | (with_reducible first | exact HB.out | apply below_alloc | apply pw_below_drewN | apply below_drew1) | exact HB.out)))); have n1_ := Aside0.mk (below_step (by repeat (first | (with_reducible first | exact HB.out | apply below_alloc | apply pw_below_drewN | apply below_drew1) | exact HB.out)) hb); clear HB; have HO128 := n0_; have HB := n1_; clear n0_ n1_; (try clear hb); (try clear hb2); (try clear hk); (try clear hi); (try clear ho0); obtain ⟨Ao7, co7, eo7⟩ := Kd.R_slice HO128.out; subst eo7; have p129 : 0 ≤ ((ji3) : Int) := of_decide_eq_true (by first | (with_reducible assumption) | assumption); have q129 : (ji3) < (t126.length : Int) := of_decide_eq_true (by first | (with_reducible assumption) | assumption); obtain ⟨ad129, e129, hx129_0⟩ := Kd.at_string (Kd.R_reads' HO128.out).2.2 (ji3) p129 q129; cases e129; replace p129 := eq_true p129; replace q129 := eq_true q129))
      go_loopg [5, 6] k (fun kq v5 v6 w' => ∃ (x5_1 : Bool) (x6_1 : Int), v5 = .bool x5_1 ∧ v6 = .int .i64 x6_1 ∧ Aside0 (gatepostref07_Ends.l0 kq (rdOf ByteArray.empty t126 (ji3)) x5_1 x6_1 = some r) ∧ Aside0 (kq ≤ k) ∧ Aside0 (Below w.heap.size w w'))
      case atStart => exact ⟨(decide (((rdOf ByteArray.empty t126 (ji3)).size : Int) > 0)), (0), (by first | rfl | (simp; done) | (simp only [← hji3] <;> (first | rfl | simp)) | (simp [*]; done)), (by first | rfl | (simp; done) | (simp [*]; done)), H', ⟨Nat.le_refl _⟩, ⟨by repeat (first | (with_reducible first | exact HB.out | apply below_alloc | apply pw_below_drewN | apply below_drew1) | exact HB.out)⟩⟩
      case round =>
        clear H'
        try clear c1
        try clear p1
        try clear q1
        try clear hx1
        try clear p2
        try clear c4
        try clear c4b0
        try clear c5
        try clear c5b0
        try clear p6
        try clear hx129_0
        try clear p129
        try clear q129
        obtain ⟨x5_1, x6_1, rfl, rfl, HA, HK1, HB⟩ := hrel
        cases gk with
        | zero => exact absurd HA.out (by simp [gatepostref07_Ends.l0])
        | succ k1 =>
          have H := HA.out
          clear HA
          simp only [gatepostref07_Ends.l0] at H
          by_cases c8 : x6_1 < ((rdOf ByteArray.empty t126 (ji3)).size : Int)
          · rw [if_pos c8] at H
            have c8b0 : decide (x6_1 < ((rdOf ByteArray.empty t126 (ji3)).size : Int)) = true := decide_eq_true c8
            clear c8
            by_cases c9 : x5_1 = true
            · subst c9
              have H1 : (if 0 ≤ x6_1 then (if (bt (rdOf ByteArray.empty t126 (ji3)) x6_1) ≥ 48 then (gatepostref07_Ends.l0 k1 (rdOf ByteArray.empty t126 (ji3)) (decide ((bt (rdOf ByteArray.empty t126 (ji3)) x6_1) ≤ 57)) (wrap64 (x6_1 + 1))) else (gatepostref07_Ends.l0 k1 (rdOf ByteArray.empty t126 (ji3)) false (wrap64 (x6_1 + 1)))) else (none)) = some r := by rw [if_pos rfl] at H; exact H
              clear H
              have H := H1
              clear H1
              by_cases c10 : 0 ≤ x6_1
              · rw [if_pos c10] at H
                have c10b0 : decide (0 ≤ x6_1) = true := decide_eq_true c10
                clear c10
                by_cases c12 : (bt (rdOf ByteArray.empty t126 (ji3)) x6_1) ≥ 48
                · rw [if_pos c12] at H
                  have c12b0 : decide (48 ≤ (bt (rdOf ByteArray.empty t126 (ji3)) x6_1)) = true := decide_eq_true c12
                  clear c12
                  have H' := Aside0.mk H
                  clear H
                  have p11 : 0 ≤ (x6_1 : Int) := of_decide_eq_true (by first | (with_reducible assumption) | assumption)
                  have q11 : x6_1 < ((rdOf ByteArray.empty t126 (ji3)).size : Int) := of_decide_eq_true (by first | (with_reducible assumption) | assumption)
                  have hx11 := bt_at (rdOf ByteArray.empty t126 (ji3)) x6_1
                  replace p11 := eq_true p11
                  replace q11 := eq_true q11
                  have p13 : 0 ≤ (x6_1 : Int) := of_decide_eq_true (by first | (with_reducible assumption) | assumption)
                  have q13 : x6_1 < ((rdOf ByteArray.empty t126 (ji3)).size : Int) := of_decide_eq_true (by first | (with_reducible assumption) | assumption)
                  have hx13 := bt_at (rdOf ByteArray.empty t126 (ji3)) x6_1
                  replace p13 := eq_true p13
                  replace q13 := eq_true q13
                  go_wp2
                  go_roundg k1
                  case measure => have := HK1.out; omega
                  case rel => exact ⟨(decide ((bt (rdOf ByteArray.empty t126 (ji3)) x6_1) ≤ 57)), (wrap64 (x6_1 + 1)), (by first | rfl | (simp; done) | (simp only [← hji3] <;> (first | rfl | simp)) | (simp [*]; done)), (by first | rfl | (simp; done) | (simp [*]; done)), H', ⟨by have := HK1.out; omega⟩, ⟨by repeat (first | (with_reducible first | exact HB.out | apply below_alloc | apply pw_below_drewN | apply below_drew1) | exact HB.out)⟩⟩
                · rw [if_neg c12] at H
                  have c12b0 : decide (48 ≤ (bt (rdOf ByteArray.empty t126 (ji3)) x6_1)) = false := decide_eq_false c12
                  clear c12
                  have H' := Aside0.mk H
                  clear H
                  have p11 : 0 ≤ (x6_1 : Int) := of_decide_eq_true (by first | (with_reducible assumption) | assumption)
                  have q11 : x6_1 < ((rdOf ByteArray.empty t126 (ji3)).size : Int) := of_decide_eq_true (by first | (with_reducible assumption) | assumption)
                  have hx11 := bt_at (rdOf ByteArray.empty t126 (ji3)) x6_1
                  replace p11 := eq_true p11
                  replace q11 := eq_true q11
                  go_wp2
                  go_roundg k1
                  case measure => have := HK1.out; omega
                  case rel => exact ⟨(false), (wrap64 (x6_1 + 1)), (by first | rfl | (simp; done) | (simp [*]; done)), (by first | rfl | (simp; done) | (simp [*]; done)), H', ⟨by have := HK1.out; omega⟩, ⟨by repeat (first | (with_reducible first | exact HB.out | apply below_alloc | apply pw_below_drewN | apply below_drew1) | exact HB.out)⟩⟩
              · rw [if_neg c10] at H
                exact absurd H (by simp)
            · replace c9 := Bool.eq_false_iff.mpr c9
              subst c9
              have H1 : (gatepostref07_Ends.l0 k1 (rdOf ByteArray.empty t126 (ji3)) false (wrap64 (x6_1 + 1))) = some r := by rw [if_neg (show ¬ (false = true) by decide)] at H; exact H
              clear H
              have H := H1
              clear H1
              have H' := Aside0.mk H
              clear H
              go_wp2
              go_roundg k1
              case measure => have := HK1.out; omega
              case rel => exact ⟨(false), (wrap64 (x6_1 + 1)), (by first | rfl | (simp; done) | (simp [*]; done)), (by first | rfl | (simp; done) | (simp [*]; done)), H', ⟨by have := HK1.out; omega⟩, ⟨by repeat (first | (with_reducible first | exact HB.out | apply below_alloc | apply pw_below_drewN | apply below_drew1) | exact HB.out)⟩⟩
          · rw [if_neg c8] at H
            have c8b0 : decide (x6_1 < ((rdOf ByteArray.empty t126 (ji3)).size : Int)) = false := decide_eq_false c8
            clear c8
            by_cases c14 : x5_1 = true
            · subst c14
              have H1 : (some true) = some r := by rw [if_pos rfl] at H; exact H
              clear H
              have H := H1
              clear H1
              obtain rfl := Option.some.inj H
              go_wp2
              go_ret
              exact ⟨by first | rfl | (simp [errW_none, errW_some] <;> rfl) | (simp only [← hji3]; first | rfl | (simp [errW_none, errW_some] <;> rfl)) | (simp [*, errW_none, errW_some] <;> rfl), by repeat (first | (with_reducible first | exact HB.out | apply below_alloc | apply pw_below_drewN | apply below_drew1) | exact HB.out)⟩
            · replace c14 := Bool.eq_false_iff.mpr c14
              subst c14
              have H1 : ((gatepostref07_number.f k1 (rdOf ByteArray.empty t126 (ji3))).bind fun t130 => (some (decide (t130 ≥ 0)))) = some r := by rw [if_neg (show ¬ (false = true) by decide)] at H; exact H
              clear H
              have H := H1
              clear H1
              replace H := Option.bind_eq_some_iff.mp H
              obtain ⟨t130, A150, H⟩ := H
              replace H : (some (decide (t130 ≥ 0))) = some r := H
              have A15 := Aside0.mk A150
              clear A150
              obtain rfl := Option.some.inj H
              go_wp2_with (first | (go_at_call 16; (with_reducible refine (gatepostref07_number.calls k1 (rdOf ByteArray.empty t126 (ji3)) t130 _ A15.out).mono ?_); rintro e w' ⟨rfl, ⟨nd, rfl⟩⟩))
              go_ret
              exact ⟨by first | rfl | (simp [errW_none, errW_some] <;> rfl) | (simp only [← hji3]; first | rfl | (simp [errW_none, errW_some] <;> rfl)) | (simp [*, errW_none, errW_some] <;> rfl), by repeat (first | (with_reducible first | exact HB.out | apply below_alloc | apply pw_below_drewN | apply below_drew1) | exact HB.out)⟩
    · rw [if_neg c5] at H
      exact absurd H (by simp)
  · rw [if_neg c4] at H
    exact absurd H (by simp)

end Go.Proofs.YtcclghpoodbdcaaGreatDoor.PFour
