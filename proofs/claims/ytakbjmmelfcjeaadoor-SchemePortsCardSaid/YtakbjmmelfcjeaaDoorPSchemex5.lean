-- Written by wip/myprint.py, a program of this session, out of the translation. Lean checks it.
import Derived.Test.YtakbjmmelfcjeaaDoorPSchemex0
import Derived.Test.YtakbjmmelfcjeaaDoorPSchemex4
import Derived.Test.YtakbjmmelfcjeaaDoorSchemeHand
namespace Go.Proofs.YtakbjmmelfcjeaaDoor.PScheme
open Go.RowKit Go.Proofs.YtakbjmmelfcjeaaDoorW.PrintWords Go.Proofs.YtakbjmmelfcjeaaDoorW.PrintLast Go.Proofs.YtakbjmmelfcjeaaDoorW.PrintMore
open Go.Proofs.YtakbjmmelfcjeaaDoor
attribute [local go_sem] max2_int min2_int max_two min_two max_three min_three max_four min_four   -- for this text's walks alone
set_option linter.unusedVariables false
set_option linter.unusedSimpArgs false

/-! ### scheme_May_1: function 20 -/
def scheme_May_1.f (a0 : Int) : Option (Bool) := (scheme_letter.f a0).bind fun t112 => (if t112 = true then (some false) else (if a0 < 48 then ((strings_IndexByte.f (⟨#[43, 45, 46]⟩ : ByteArray) a0).bind fun t113 => (some (decide (t113 < 0)))) else (if a0 > 57 then ((strings_IndexByte.f (⟨#[43, 45, 46]⟩ : ByteArray) a0).bind fun t114 => (some (decide (t114 < 0)))) else (some false))))
set_option maxHeartbeats 8000000 in
set_option maxRecDepth 100000 in
theorem scheme_May_1.calls (a0 : Int) (r : Bool) (w : World) (h : scheme_May_1.f a0 = some r) :
    Calls Tryd.prog 20 #[.int .u8 a0] w fun e w' => e = .returned (.bool r) ∧ Drawn0 w w' := by
  have H : ((scheme_letter.f a0).bind fun t112 => (if t112 = true then (some false) else (if a0 < 48 then ((strings_IndexByte.f (⟨#[43, 45, 46]⟩ : ByteArray) a0).bind fun t113 => (some (decide (t113 < 0)))) else (if a0 > 57 then ((strings_IndexByte.f (⟨#[43, 45, 46]⟩ : ByteArray) a0).bind fun t114 => (some (decide (t114 < 0)))) else (some false))))) = some r := h
  clear h
  replace H := Option.bind_eq_some_iff.mp H
  obtain ⟨t112, A20, H⟩ := H
  replace H : (if t112 = true then (some false) else (if a0 < 48 then ((strings_IndexByte.f (⟨#[43, 45, 46]⟩ : ByteArray) a0).bind fun t113 => (some (decide (t113 < 0)))) else (if a0 > 57 then ((strings_IndexByte.f (⟨#[43, 45, 46]⟩ : ByteArray) a0).bind fun t114 => (some (decide (t114 < 0)))) else (some false)))) = some r := H
  have A2 := Aside0.mk A20
  clear A20
  by_cases c3 : t112 = true
  · subst c3
    have H1 : (some false) = some r := by rw [if_pos rfl] at H; exact H
    clear H
    have H := H1
    clear H1
    obtain rfl := Option.some.inj H
    go_enter Tryd.func20, Tryd.ntmps20
    go_wp2_with (first | ((with_reducible refine gate_callee (f := 21) rfl ?_); refine goesL_ (some 4) rfl rfl Tryd.func21 (by kernel_rfl) rfl #[.int .u8 a0] rfl (by (try simp only [List.map_toArray, List.map_cons, List.map_nil]); first | done | rfl | (simp only [List.length_drop, List.length_take]; rfl)) ?_; (with_reducible refine (scheme_letter.calls a0 true _ A2.out).mono ?_); rintro e w' ⟨rfl, ⟨nd, rfl⟩⟩; refine ⟨_, rfl, ?_⟩))
    go_ret
    exact ⟨by first | rfl | (simp; done) | (simp [*]; done), by repeat (first | exact Drawn0.refl _ | apply Drawn0.step)⟩
  · replace c3 := Bool.eq_false_iff.mpr c3
    subst c3
    have H1 : (if a0 < 48 then ((strings_IndexByte.f (⟨#[43, 45, 46]⟩ : ByteArray) a0).bind fun t113 => (some (decide (t113 < 0)))) else (if a0 > 57 then ((strings_IndexByte.f (⟨#[43, 45, 46]⟩ : ByteArray) a0).bind fun t114 => (some (decide (t114 < 0)))) else (some false))) = some r := by rw [if_neg (show ¬ (false = true) by decide)] at H; exact H
    clear H
    have H := H1
    clear H1
    by_cases c4 : a0 < 48
    · rw [if_pos c4] at H
      have c4b0 : decide (a0 < 48) = true := decide_eq_true c4
      clear c4
      replace H := Option.bind_eq_some_iff.mp H
      obtain ⟨t113, A50, H⟩ := H
      replace H : (some (decide (t113 < 0))) = some r := H
      have A5 := Aside0.mk A50
      clear A50
      obtain rfl := Option.some.inj H
      go_enter Tryd.func20, Tryd.ntmps20
      go_wp2_with (first | ((with_reducible refine gate_callee (f := 21) rfl ?_); refine goesL_ (some 4) rfl rfl Tryd.func21 (by kernel_rfl) rfl #[.int .u8 a0] rfl (by (try simp only [List.map_toArray, List.map_cons, List.map_nil]); first | done | rfl | (simp only [List.length_drop, List.length_take]; rfl)) ?_; (with_reducible refine (scheme_letter.calls a0 false _ A2.out).mono ?_); rintro e w' ⟨rfl, ⟨nd, rfl⟩⟩; refine ⟨_, rfl, ?_⟩) | (go_at_call 22; (with_reducible refine (strings_IndexByte.calls (⟨#[43, 45, 46]⟩ : ByteArray) a0 t113 _ A5.out).mono ?_); rintro e w' ⟨rfl, ⟨nd, rfl⟩⟩))
      go_ret
      exact ⟨by first | rfl | (simp; done) | (simp [*]; done), by repeat (first | exact Drawn0.refl _ | apply Drawn0.step)⟩
    · rw [if_neg c4] at H
      have c4b0 : decide (a0 < 48) = false := decide_eq_false c4
      clear c4
      by_cases c6 : a0 > 57
      · rw [if_pos c6] at H
        have c6b0 : decide (57 < a0) = true := decide_eq_true c6
        clear c6
        replace H := Option.bind_eq_some_iff.mp H
        obtain ⟨t114, A70, H⟩ := H
        replace H : (some (decide (t114 < 0))) = some r := H
        have A7 := Aside0.mk A70
        clear A70
        obtain rfl := Option.some.inj H
        go_enter Tryd.func20, Tryd.ntmps20
        go_wp2_with (first | ((with_reducible refine gate_callee (f := 21) rfl ?_); refine goesL_ (some 4) rfl rfl Tryd.func21 (by kernel_rfl) rfl #[.int .u8 a0] rfl (by (try simp only [List.map_toArray, List.map_cons, List.map_nil]); first | done | rfl | (simp only [List.length_drop, List.length_take]; rfl)) ?_; (with_reducible refine (scheme_letter.calls a0 false _ A2.out).mono ?_); rintro e w' ⟨rfl, ⟨nd, rfl⟩⟩; refine ⟨_, rfl, ?_⟩) | (go_at_call 22; (with_reducible refine (strings_IndexByte.calls (⟨#[43, 45, 46]⟩ : ByteArray) a0 t114 _ A7.out).mono ?_); rintro e w' ⟨rfl, ⟨nd, rfl⟩⟩))
        go_ret
        exact ⟨by first | rfl | (simp; done) | (simp [*]; done), by repeat (first | exact Drawn0.refl _ | apply Drawn0.step)⟩
      · rw [if_neg c6] at H
        have c6b0 : decide (57 < a0) = false := decide_eq_false c6
        clear c6
        obtain rfl := Option.some.inj H
        go_enter Tryd.func20, Tryd.ntmps20
        go_wp2_with (first | ((with_reducible refine gate_callee (f := 21) rfl ?_); refine goesL_ (some 4) rfl rfl Tryd.func21 (by kernel_rfl) rfl #[.int .u8 a0] rfl (by (try simp only [List.map_toArray, List.map_cons, List.map_nil]); first | done | rfl | (simp only [List.length_drop, List.length_take]; rfl)) ?_; (with_reducible refine (scheme_letter.calls a0 false _ A2.out).mono ?_); rintro e w' ⟨rfl, ⟨nd, rfl⟩⟩; refine ⟨_, rfl, ?_⟩))
        go_ret
        exact ⟨by first | rfl | (simp; done) | (simp [*]; done), by repeat (first | exact Drawn0.refl _ | apply Drawn0.step)⟩

end Go.Proofs.YtakbjmmelfcjeaaDoor.PScheme
