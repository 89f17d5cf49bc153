-- Written by wip/myprint.py, a program of this session, out of the translation. Lean checks it.
import Derived.Test.YtakbjmmelfcjeaaPSchemex0
import Derived.Test.YtakbjmmelfcjeaaPSchemex3
import Derived.Test.YtakbjmmelfcjeaaSchemeAwake
import Derived.Test.YtakbjmmelfcjeaaSchemeMay
namespace Go.Proofs.Ytakbjmmelfcjeaa.PScheme
open Go.RowKit Go.Proofs.YtakbjmmelfcjeaaW.PrintWords Go.Proofs.YtakbjmmelfcjeaaW.PrintLast Go.Proofs.YtakbjmmelfcjeaaW.PrintMore
open Go.Proofs.Ytakbjmmelfcjeaa
attribute [local go_sem] max2_int min2_int max_two min_two max_three min_three max_four min_four   -- for this text's walks alone
set_option linter.unusedVariables false
set_option linter.unusedSimpArgs false

/-! ### gatepostlaw10_SchemeTells: function 3 -/
def gatepostlaw10_SchemeTells.f (k : Nat) (a0 : ByteArray) : Option (Bool) := (gatepostlaw10_awake.f).bind fun t120 => (if (a0.size : Int) > 80 then (some t120) else (if t120 = true then ((scheme_Special.f a0).bind fun t121 => ((gatepostref10_Special.f a0).bind fun t122 => (if (t121 == t122) = true then ((scheme_Default.f a0).bind fun t123 => ((gatepostref10_Default.f k a0).bind fun t124 => (if t123 = t124 then ((scheme_May.f a0).bind fun t125 => ((gatepostref10_May.f k a0).bind fun t126 => (some (t125 == t126)))) else (some false)))) else (some false)))) else (some false)))
theorem gatepostlaw10_SchemeTells.mono : ∀ a0 k, LeO (gatepostlaw10_SchemeTells.f k a0) (gatepostlaw10_SchemeTells.f (k + 1) a0) := by
  intro a0 k
  unfold gatepostlaw10_SchemeTells.f
  repeat' first
      | (with_reducible exact gatepostref10_Default.mono _ _)
      | (with_reducible exact gatepostref10_May.mono _ _)
      | (with_reducible exact LeO.refl _)
      | (with_reducible exact LeO.none _)
      | (with_reducible refine LeO.ite ?_ ?_)
      | (with_reducible refine LeO.bind ?_ (fun _ => ?_))
      | exact gatepostref10_Default.mono _ _
      | exact gatepostref10_May.mono _ _
      | exact LeO.none _
      | refine LeO.ite ?_ ?_
      | refine LeO.bind ?_ (fun _ => ?_)
set_option maxHeartbeats 8000000 in
set_option maxRecDepth 100000 in
theorem gatepostlaw10_SchemeTells.calls (k : Nat) (a0 : ByteArray) (r : Bool) (w : World) (h : gatepostlaw10_SchemeTells.f k a0 = some r) :
    Calls Try.prog 3 #[.string a0] w fun e w' => e = .returned (.bool r) ∧ Below w.heap.size w w' := by
  have HB := Aside0.mk (Below.refl w.heap.size w)
  have H : ((gatepostlaw10_awake.f).bind fun t120 => (if (a0.size : Int) > 80 then (some t120) else (if t120 = true then ((scheme_Special.f a0).bind fun t121 => ((gatepostref10_Special.f a0).bind fun t122 => (if (t121 == t122) = true then ((scheme_Default.f a0).bind fun t123 => ((gatepostref10_Default.f k a0).bind fun t124 => (if t123 = t124 then ((scheme_May.f a0).bind fun t125 => ((gatepostref10_May.f k a0).bind fun t126 => (some (t125 == t126)))) else (some false)))) else (some false)))) else (some false)))) = some r := h
  clear h
  replace H := Option.bind_eq_some_iff.mp H
  obtain ⟨t120, A20, H⟩ := H
  replace H : (if (a0.size : Int) > 80 then (some t120) else (if t120 = true then ((scheme_Special.f a0).bind fun t121 => ((gatepostref10_Special.f a0).bind fun t122 => (if (t121 == t122) = true then ((scheme_Default.f a0).bind fun t123 => ((gatepostref10_Default.f k a0).bind fun t124 => (if t123 = t124 then ((scheme_May.f a0).bind fun t125 => ((gatepostref10_May.f k a0).bind fun t126 => (some (t125 == t126)))) else (some false)))) else (some false)))) else (some false))) = some r := H
  have A2 := Aside0.mk A20
  clear A20
  by_cases c3 : (a0.size : Int) > 80
  · rw [if_pos c3] at H
    have c3b0 : decide (80 < (a0.size : Int)) = true := decide_eq_true c3
    have c3b1 : decide (80 < a0.size) = true := decide_eq_true (by omega)
    clear c3
    obtain rfl := Option.some.inj H
    go_enter Try.func3, Try.ntmps3
    go_wp2_with (first | ((with_reducible refine gate_callee (f := 7) rfl ?_); refine goesL_ (some 4) rfl rfl Try.func7 (by kernel_rfl) rfl #[] rfl (by (try simp only [List.map_toArray, List.map_cons, List.map_nil]); first | done | rfl | (simp only [List.length_drop, List.length_take]; rfl)) ?_; (with_reducible refine (gatepostlaw10_awake.calls  t120 _ A2.out).mono ?_); rintro e w4 ⟨rfl, hb⟩; refine ⟨_, rfl, ?_⟩; have n0_ := Aside0.mk (below_step (by repeat (first | (with_reducible first | exact HB.out | apply below_alloc | apply pw_below_drewN | apply below_drew1) | exact HB.out)) hb); clear HB; have HB := n0_; clear n0_; (try clear hb); (try clear hb2); (try clear hk); (try clear hi)))
    go_ret
    exact ⟨by first | rfl | (simp [errW_none, errW_some] <;> rfl) | (simp [*, errW_none, errW_some] <;> rfl), by repeat (first | (with_reducible first | exact HB.out | apply below_alloc | apply pw_below_drewN | apply below_drew1) | exact HB.out)⟩
  · rw [if_neg c3] at H
    have c3b0 : decide (80 < (a0.size : Int)) = false := decide_eq_false c3
    have c3b1 : decide (80 < a0.size) = false := decide_eq_false (by omega)
    clear c3
    by_cases c5 : t120 = true
    · subst c5
      have H1 : ((scheme_Special.f a0).bind fun t121 => ((gatepostref10_Special.f a0).bind fun t122 => (if (t121 == t122) = true then ((scheme_Default.f a0).bind fun t123 => ((gatepostref10_Default.f k a0).bind fun t124 => (if t123 = t124 then ((scheme_May.f a0).bind fun t125 => ((gatepostref10_May.f k a0).bind fun t126 => (some (t125 == t126)))) else (some false)))) else (some false)))) = some r := by rw [if_pos rfl] at H; exact H
      clear H
      have H := H1
      clear H1
      replace H := Option.bind_eq_some_iff.mp H
      obtain ⟨t121, A60, H⟩ := H
      replace H : ((gatepostref10_Special.f a0).bind fun t122 => (if (t121 == t122) = true then ((scheme_Default.f a0).bind fun t123 => ((gatepostref10_Default.f k a0).bind fun t124 => (if t123 = t124 then ((scheme_May.f a0).bind fun t125 => ((gatepostref10_May.f k a0).bind fun t126 => (some (t125 == t126)))) else (some false)))) else (some false))) = some r := H
      have A6 := Aside0.mk A60
      clear A60
      replace H := Option.bind_eq_some_iff.mp H
      obtain ⟨t122, A70, H⟩ := H
      replace H : (if (t121 == t122) = true then ((scheme_Default.f a0).bind fun t123 => ((gatepostref10_Default.f k a0).bind fun t124 => (if t123 = t124 then ((scheme_May.f a0).bind fun t125 => ((gatepostref10_May.f k a0).bind fun t126 => (some (t125 == t126)))) else (some false)))) else (some false)) = some r := H
      have A7 := Aside0.mk A70
      clear A70
      by_cases c8 : (t121 == t122) = true
      · rw [if_pos c8] at H
        have c8b0 : (t121 == t122) = true := c8
        (try (have c8b1 : decide (t121 = t122) = true := by simpa using c8))
        (try (have c8b2 : (t121 == t122) = true := by simpa using c8))
        clear c8
        replace H := Option.bind_eq_some_iff.mp H
        obtain ⟨t123, A90, H⟩ := H
        replace H : ((gatepostref10_Default.f k a0).bind fun t124 => (if t123 = t124 then ((scheme_May.f a0).bind fun t125 => ((gatepostref10_May.f k a0).bind fun t126 => (some (t125 == t126)))) else (some false))) = some r := H
        have A9 := Aside0.mk A90
        clear A90
        replace H := Option.bind_eq_some_iff.mp H
        obtain ⟨t124, A100, H⟩ := H
        replace H : (if t123 = t124 then ((scheme_May.f a0).bind fun t125 => ((gatepostref10_May.f k a0).bind fun t126 => (some (t125 == t126)))) else (some false)) = some r := H
        have A10 := Aside0.mk A100
        clear A100
        by_cases c11 : t123 = t124
        · rw [if_pos c11] at H
          have c11b0 : (t123 == t124) = true := beq_iff_eq.mpr c11
          have c11b1 : (t123 != t124) = false := bne_eq_false_iff_eq.mpr c11
          clear c11
          replace H := Option.bind_eq_some_iff.mp H
          obtain ⟨t125, A120, H⟩ := H
          replace H : ((gatepostref10_May.f k a0).bind fun t126 => (some (t125 == t126))) = some r := H
          have A12 := Aside0.mk A120
          clear A120
          replace H := Option.bind_eq_some_iff.mp H
          obtain ⟨t126, A130, H⟩ := H
          replace H : (some (t125 == t126)) = some r := H
          have A13 := Aside0.mk A130
          clear A130
          obtain rfl := Option.some.inj H
          go_enter Try.func3, Try.ntmps3
          go_wp2_with (first | ((with_reducible refine gate_callee (f := 7) rfl ?_); refine goesL_ (some 4) rfl rfl Try.func7 (by kernel_rfl) rfl #[] rfl (by (try simp only [List.map_toArray, List.map_cons, List.map_nil]); first | done | rfl | (simp only [List.length_drop, List.length_take]; rfl)) ?_; (with_reducible refine (gatepostlaw10_awake.calls  true _ A2.out).mono ?_); rintro e w14 ⟨rfl, hb⟩; refine ⟨_, rfl, ?_⟩; have n0_ := Aside0.mk (below_step (by repeat (first | (with_reducible first | exact HB.out | apply below_alloc | apply pw_below_drewN | apply below_drew1) | exact HB.out)) hb); clear HB; have HB := n0_; clear n0_; (try clear hb); (try clear hb2); (try clear hk); (try clear hi)) | (go_at_call 8; (with_reducible refine (scheme_Special.calls a0 t121 _ A6.out).mono ?_); rintro e w' ⟨rfl, ⟨nd, rfl⟩⟩) | (go_at_call 9; (with_reducible refine (gatepostref10_Special.calls a0 t122 _ A7.out).mono ?_); rintro e w' ⟨rfl, ⟨nd, rfl⟩⟩) | (go_at_call 10; (with_reducible refine (scheme_Default.calls a0 t123 _ A9.out).mono ?_); rintro e w' ⟨rfl, ⟨nd, rfl⟩⟩) | (go_at_call 11; (with_reducible refine (gatepostref10_Default.calls k a0 t124 _ A10.out).mono ?_); rintro e w' ⟨rfl, ⟨nd, rfl⟩⟩) | (go_at_call 12; (with_reducible refine (scheme_May.calls a0 t125 _ A12.out).mono ?_); rintro e w15 ⟨rfl, hb⟩; have n0_ := Aside0.mk (below_step (by repeat (first | (with_reducible first | exact HB.out | apply below_alloc | apply pw_below_drewN | apply below_drew1) | exact HB.out)) hb); clear HB; have HB := n0_; clear n0_; (try clear hb); (try clear hb2); (try clear hk); (try clear hi)) | (go_at_call 13; (with_reducible refine (gatepostref10_May.calls k a0 t126 _ A13.out).mono ?_); rintro e w' ⟨rfl, ⟨nd, rfl⟩⟩))
          go_ret
          exact ⟨by first | rfl | (simp [errW_none, errW_some] <;> rfl) | (simp [*, errW_none, errW_some] <;> rfl), by repeat (first | (with_reducible first | exact HB.out | apply below_alloc | apply pw_below_drewN | apply below_drew1) | exact HB.out)⟩
        · rw [if_neg c11] at H
          have c11b0 : (t123 == t124) = false := beq_eq_false_iff_ne.mpr c11
          have c11b1 : (t123 != t124) = true := bne_iff_ne.mpr c11
          obtain rfl := Option.some.inj H
          go_enter Try.func3, Try.ntmps3
          go_wp2_with (first | ((with_reducible refine gate_callee (f := 7) rfl ?_); refine goesL_ (some 4) rfl rfl Try.func7 (by kernel_rfl) rfl #[] rfl (by (try simp only [List.map_toArray, List.map_cons, List.map_nil]); first | done | rfl | (simp only [List.length_drop, List.length_take]; rfl)) ?_; (with_reducible refine (gatepostlaw10_awake.calls  true _ A2.out).mono ?_); rintro e w16 ⟨rfl, hb⟩; refine ⟨_, rfl, ?_⟩; have n0_ := Aside0.mk (below_step (by repeat (first | (with_reducible first | exact HB.out | apply below_alloc | apply pw_below_drewN | apply below_drew1) | exact HB.out)) hb); clear HB; have HB := n0_; clear n0_; (try clear hb); (try clear hb2); (try clear hk); (try clear hi)) | (go_at_call 8; (with_reducible refine (scheme_Special.calls a0 t121 _ A6.out).mono ?_); rintro e w' ⟨rfl, ⟨nd, rfl⟩⟩) | (go_at_call 9; (with_reducible refine (gatepostref10_Special.calls a0 t122 _ A7.out).mono ?_); rintro e w' ⟨rfl, ⟨nd, rfl⟩⟩) | (go_at_call 10; (with_reducible refine (scheme_Default.calls a0 t123 _ A9.out).mono ?_); rintro e w' ⟨rfl, ⟨nd, rfl⟩⟩) | (go_at_call 11; (with_reducible refine (gatepostref10_Default.calls k a0 t124 _ A10.out).mono ?_); rintro e w' ⟨rfl, ⟨nd, rfl⟩⟩))
          go_ret
          exact ⟨by first | rfl | (simp [errW_none, errW_some] <;> rfl) | (simp [*, errW_none, errW_some] <;> rfl), by repeat (first | (with_reducible first | exact HB.out | apply below_alloc | apply pw_below_drewN | apply below_drew1) | exact HB.out)⟩
      · rw [if_neg c8] at H
        have c8b0 : (t121 == t122) = false := by simpa using c8
        (try (have c8b1 : decide (t121 = t122) = false := by simpa using c8))
        (try (have c8b2 : (t121 == t122) = false := by simpa using c8))
        (try (have c8b3 : ¬ (t121 = t122) := by simpa using c8))
        clear c8
        obtain rfl := Option.some.inj H
        go_enter Try.func3, Try.ntmps3
        go_wp2_with (first | ((with_reducible refine gate_callee (f := 7) rfl ?_); refine goesL_ (some 4) rfl rfl Try.func7 (by kernel_rfl) rfl #[] rfl (by (try simp only [List.map_toArray, List.map_cons, List.map_nil]); first | done | rfl | (simp only [List.length_drop, List.length_take]; rfl)) ?_; (with_reducible refine (gatepostlaw10_awake.calls  true _ A2.out).mono ?_); rintro e w17 ⟨rfl, hb⟩; refine ⟨_, rfl, ?_⟩; have n0_ := Aside0.mk (below_step (by repeat (first | (with_reducible first | exact HB.out | apply below_alloc | apply pw_below_drewN | apply below_drew1) | exact HB.out)) hb); clear HB; have HB := n0_; clear n0_; (try clear hb); (try clear hb2); (try clear hk); (try clear hi)) | (go_at_call 8; (with_reducible refine (scheme_Special.calls a0 t121 _ A6.out).mono ?_); rintro e w' ⟨rfl, ⟨nd, rfl⟩⟩) | (go_at_call 9; (with_reducible refine (gatepostref10_Special.calls a0 t122 _ A7.out).mono ?_); rintro e w' ⟨rfl, ⟨nd, rfl⟩⟩))
        go_ret
        exact ⟨by first | rfl | (simp [errW_none, errW_some] <;> rfl) | (simp [*, errW_none, errW_some] <;> rfl), by repeat (first | (with_reducible first | exact HB.out | apply below_alloc | apply pw_below_drewN | apply below_drew1) | exact HB.out)⟩
    · replace c5 := Bool.eq_false_iff.mpr c5
      subst c5
      have H1 : (some false) = some r := by rw [if_neg (show ¬ (false = true) by decide)] at H; exact H
      clear H
      have H := H1
      clear H1
      obtain rfl := Option.some.inj H
      go_enter Try.func3, Try.ntmps3
      go_wp2_with (first | ((with_reducible refine gate_callee (f := 7) rfl ?_); refine goesL_ (some 4) rfl rfl Try.func7 (by kernel_rfl) rfl #[] rfl (by (try simp only [List.map_toArray, List.map_cons, List.map_nil]); first | done | rfl | (simp only [List.length_drop, List.length_take]; rfl)) ?_; (with_reducible refine (gatepostlaw10_awake.calls  false _ A2.out).mono ?_); rintro e w18 ⟨rfl, hb⟩; refine ⟨_, rfl, ?_⟩; have n0_ := Aside0.mk (below_step (by repeat (first | (with_reducible first | exact HB.out | apply below_alloc | apply pw_below_drewN | apply below_drew1) | exact HB.out)) hb); clear HB; have HB := n0_; clear n0_; (try clear hb); (try clear hb2); (try clear hk); (try clear hi)))
      go_ret
      exact ⟨by first | rfl | (simp [errW_none, errW_some] <;> rfl) | (simp [*, errW_none, errW_some] <;> rfl), by repeat (first | (with_reducible first | exact HB.out | apply below_alloc | apply pw_below_drewN | apply below_drew1) | exact HB.out)⟩

/-- THE ONE PURE STATEMENT of gatepostlaw10_SchemeTells: yours. -/
def gatepostlaw10_SchemeTells.Pure : Prop := ∀ (a0 : ByteArray), a0.size ≤ 140737488351232 → ∃ k, gatepostlaw10_SchemeTells.f k a0 = some true
theorem gatepostlaw10_SchemeTells.walk (P : gatepostlaw10_SchemeTells.Pure) (a0 : ByteArray) (w : World) (w0 : a0.size ≤ 140737488351232) :
    Calls Try.prog 3 #[.string a0] w fun e w' => e = .returned (.bool true) ∧ Below w.heap.size w w' := by
  obtain ⟨k, h⟩ := P a0 w0
  refine (gatepostlaw10_SchemeTells.calls k a0 true w h).mono ?_
  rintro e w' ⟨rfl, hd⟩
  exact ⟨rfl, hd⟩

end Go.Proofs.Ytakbjmmelfcjeaa.PScheme
