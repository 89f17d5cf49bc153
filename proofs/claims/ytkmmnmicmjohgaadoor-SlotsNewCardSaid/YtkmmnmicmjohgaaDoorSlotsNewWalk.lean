/- SlotsNew, walked. -/
import Derived.Test.YtkmmnmicmjohgaaDoorSlotsAwake
import Derived.Deep.RegionHeld3
set_option linter.unusedVariables false
set_option linter.unusedSimpArgs false
namespace Go.Proofs.YtkmmnmicmjohgaaDoor
open Go.RowKit Slots

theorem ref_new_bad2 (many : Int) (last : Int) (h : many < 1 ∨ 4096 < many ∨ last = 0) (w : World) :
    Calls Tryd.prog 13 #[.int .i64 many, .int .u64 last] w fun e w' => (∃ A0 A1 A2 c0 c1 c2, e = .returned (.tuple #[.agg #[.slice A0 0 c0, .slice A1 0 c1, .slice A2 0 c2, .int .u64 0], .int .i64 1])) ∧ Below w.heap.size w w' := by
  have hf : PRef.gatepostref19_New.f 1 many last = some ([], [], [], 0, 1) := by
    unfold PRef.gatepostref19_New.f
    by_cases h1 : many < 1
    · rw [if_pos h1]; rfl
    · rw [if_neg h1]
      by_cases h2 : many > 4096
      · rw [if_pos h2]; rfl
      · rw [if_neg h2, show (last == 0) = true by simp; omega]; rfl
  refine (PRef.gatepostref19_New.calls 1 many last _ _ _ _ _ w hf).mono ?_
  rintro e w' ⟨v0, v1, v2, rfl, r0, r1, r2, hb⟩
  obtain ⟨A0, c0, rfl, _⟩ := (OwnI.ofR r0).row
  obtain ⟨A1, c1, rfl, _⟩ := (OwnI.ofR r1).row
  obtain ⟨A2, c2, rfl, _⟩ := (OwnI.ofR r2).row
  exact ⟨⟨A0, A1, A2, c0, c1, c2, rfl⟩, hb⟩

set_option maxHeartbeats 4000000 in
theorem slotsNew_walk (many last : Int) (w : World) (hl : 0 ≤ last) (hE : ErrType w) :
    Calls Tryd.prog 4 #[.int .i64 many, .int .u64 last] w fun e w' => e = .returned (.bool true) ∧ Below w.heap.size w w' := by
  have HE := Lib.hid hE
  clear hE
  by_cases hbad : many < 1 ∨ 4096 < many ∨ last = 0
  · have HB := Lib.hid hbad
    clear hbad
    go_enter Tryd.func4, Tryd.ntmps4
    go_wp2_with fail
    refine (awake_calls _).mono ?_
    rintro e w1 ⟨rfl, hb1⟩
    have HB1 := Lib.hid hb1
    clear hb1
    go_wp2_with fail
    refine (slots_new_bad many last _ HB.out).mono ?_
    rintro e w2 ⟨⟨v, rfl, hc⟩, hb2⟩
    have HB2 := Lib.hid (belowOn HB1.out HB1.out.size hb2)
    have HC := Lib.hid hc
    clear hb2 hc HB1
    go_wp2_with fail
    refine (ref_new_bad2 many last HB.out _).mono ?_
    rintro e w3 ⟨⟨A0, A1, A2, c0, c1, c2, rfl⟩, hb3⟩
    have HB3 := Lib.hid (belowOn HB2.out HB2.out.size hb3)
    have HC3 := Lib.hid (HC.out.keep hb3)
    clear hb3 HB2 HC
    go_wp2_with fail
    have hB4 := HB3.out.alloc HB3.out.size (.cells #[.slice A0 0 c0, .slice A1 0 c1, .slice A2 0 c2, .int .u64 0] 30)
    have hC4 := HC3.out.keep ((Below.refl _ _).alloc (Nat.le_refl _) (.cells #[.slice A0 0 c0, .slice A1 0 c1, .slice A2 0 c2, .int .u64 0] 30))
    refine (code_chain _ v 1 _ hC4 (HE.out.keep hB4)).mono ?_
    rintro e w4 ⟨rfl, hb4⟩
    have HB4 := Lib.hid (belowOn hB4 hB4.size hb4)
    clear hB4 hC4 hb4
    go_wp2
    go_ret
    exact ⟨rfl, HB4.out⟩
  · obtain ⟨n, rfl⟩ := Int.eq_ofNat_of_zero_le (show 0 ≤ many by omega)
    have h1 : 1 ≤ n := by omega
    have h2 : n ≤ 4096 := by omega
    have h3 : 1 ≤ last := by omega
    have h4 : last ≠ 0 := by omega
    have H4 := Lib.hid h4
    clear hbad h4
    go_enter Tryd.func4, Tryd.ntmps4
    go_wp2_with fail
    refine (awake_calls _).mono ?_
    rintro e w1 ⟨rfl, hb1⟩
    have HB1 := Lib.hid hb1
    clear hb1
    go_wp2_with fail
    refine (slots_new_ok n last _ h1 h2 h3).mono ?_
    rintro e w2 ⟨⟨b, g, rfl, hA, hb, hg⟩, hb2⟩
    have HB2 := Lib.hid (belowOn HB1.out HB1.out.size hb2)
    have HA := Lib.hid hA
    clear hb2 hA HB1
    go_wp2_with fail
    refine (ref_new_ok n last h1 h2 H4.out _).mono ?_
    rintro e w3 ⟨⟨vr, rfl, A0, A1, A2, c0, c1, c2, hvr, _⟩, hb3⟩
    subst hvr
    have HB3 := Lib.hid (belowOn HB2.out HB2.out.size hb3)
    have HA3 := Lib.hid (HA.out.keep hb3)
    clear hb3 HB2 HA
    go_wp2_with fail
    have hB4 := HB3.out.alloc HB3.out.size (.cells #[.slice A0 (newRf n last).gens.length c0, .slice A1 (newRf n last).counts.length c1, .slice A2 (newRf n last).free.length c2, .int .u64 (newRf n last).last] 30)
    have hA4 := HA3.out.keep ((Below.refl _ _).alloc (Nat.le_refl _) (.cells #[.slice A0 (newRf n last).gens.length c0, .slice A1 (newRf n last).counts.length c1, .slice A2 (newRf n last).free.length c2, .int .u64 (newRf n last).last] 30))
    have HB4 := Lib.hid hB4
    have HA4 := Lib.hid hA4
    have hlive : ∀ W, At W b g (newSt n last) → Calls Tryd.prog 14 #[.pointer (some ⟨b, 0, none⟩)] W fun e w' => e = .returned (.int .i64 0) ∧ W = w' := fun W hA => slots_live hA
    have hleft : ∀ W, At W b g (newSt n last) → Calls Tryd.prog 15 #[.pointer (some ⟨b, 0, none⟩)] W fun e w' => e = .returned (.int .i64 n) ∧ W = w' := fun W hA => slots_left hA
    refine (hlive _ HA4.out).mono ?_
    have HLE := Lib.hid hleft
    clear hB4 hA4 hlive hleft
    rintro e w' ⟨rfl, rfl⟩
    go_wp2_with fail
    refine (HLE.out _ HA4.out).mono ?_
    rintro e w' ⟨rfl, rfl⟩
    go_wp2
    go_ret
    exact ⟨rfl, HB4.out⟩
end Go.Proofs.YtkmmnmicmjohgaaDoor
