/- The laws' awake: a scheme, and a port. -/
import Derived.Test.YtakbjmmelfcjeaaDoorSchemePort
import Derived.Test.YtakbjmmelfcjeaaDoorSchemeMay
import Derived.Test.YtakbjmmelfcjeaaDoorPSchemex3
import Derived.Test.YtakbjmmelfcjeaaDoorPSchemex4
set_option linter.unusedVariables false
set_option linter.unusedSimpArgs false
namespace Go.Proofs.YtakbjmmelfcjeaaDoor
open Go.RowKit Go.Proofs.YtakbjmmelfcjeaaDoorW.PrintWords Go.Proofs.YtakbjmmelfcjeaaDoor.PScheme

theorem aw_cut : scheme_Cut.f ⟨#[72, 84, 84, 80, 58, 120, 58, 121]⟩ = some (⟨#[104, 116, 116, 112]⟩, ⟨#[120, 58, 121]⟩, true) := by decide +kernel
theorem aw_p1 : portOf ⟨#[48, 52, 52, 51]⟩ ⟨#[104, 116, 116, 112, 115]⟩ = some (-1) := by decide +kernel
theorem aw_p2 : portOf ⟨#[54, 53, 53, 51, 54]⟩ ⟨#[102, 116, 112]⟩ = none := by decide +kernel
theorem aw_special : scheme_Special.f ⟨#[102, 105, 108, 101]⟩ = some true := by decide +kernel
theorem aw_default : scheme_Default.f ⟨#[102, 105, 108, 101]⟩ = some (-1) := by decide +kernel
theorem aw_may1 : scheme_May.f ⟨#[97, 43, 49]⟩ = some true := by decide +kernel
theorem aw_may2 : scheme_May.f ⟨#[49, 97]⟩ = some false := by decide +kernel

theorem aw_l1 : (⟨#[104, 116, 116, 112]⟩ : ByteArray).toList = [104, 116, 116, 112] := by rw [ByteArray.toList_eq]
theorem aw_l2 : (⟨#[120, 58, 121]⟩ : ByteArray).toList = [120, 58, 121] := by rw [ByteArray.toList_eq]
def gatepostlaw10_awake.f : Option Bool := some true
set_option maxHeartbeats 2000000 in
theorem gatepostlaw10_awake.calls (r : Bool) (w : World) (h : gatepostlaw10_awake.f = some r) :
    Calls Tryd.prog 4 #[] w fun e w' => e = .returned (.bool r) ∧ Below w.heap.size w w' := by
  obtain rfl := Option.some.inj h
  clear h
  go_enter Tryd.func4, Tryd.ntmps4
  go_wp2_with fail
  refine (scheme_Cut.calls _ _ _ _ _ aw_cut).mono ?_
  rintro e w1 ⟨rfl, hb1⟩
  have H1 := Lib.hid hb1
  clear hb1
  go_wp2_with fail
  refine (port_ok _ _ _ _ (by decide) aw_p1).mono ?_
  rintro e w2 ⟨rfl, hb2⟩
  have H2 := Lib.hid (below_step H1.out hb2)
  clear hb2
  go_wp2_with fail
  refine (port_err _ _ _ (by decide) aw_p2).mono ?_
  rintro e w3 ⟨t, x, rfl, hc, hb3⟩
  have HC := Lib.hid hc
  have H3 := Lib.hid (below_step H2.out hb3)
  clear hc hb3
  have l1 := aw_l1
  have l2 := aw_l2
  go_wp2_with fail
  refine (is_chain _ _ 4 4 _ HC.out).mono ?_
  rintro e w4 ⟨rfl, rfl⟩
  have e4 : ((4 : Int) == 4) = true := rfl
  go_wp2_with fail
  refine (scheme_Special.calls _ _ _ aw_special).mono ?_
  rintro e w4 ⟨rfl, ⟨n4, rfl⟩⟩
  go_wp2_with fail
  refine (scheme_Default.calls _ _ _ aw_default).mono ?_
  rintro e w4 ⟨rfl, ⟨n5, rfl⟩⟩
  go_wp2_with fail
  refine (scheme_May.calls _ _ _ aw_may1).mono ?_
  rintro e w5 ⟨rfl, hb5⟩
  have H5 := Lib.hid (below_step (pw_below_drewN H3.out (n4 + n5)) hb5)
  clear hb5
  go_wp2_with fail
  refine (scheme_May.calls _ _ _ aw_may2).mono ?_
  rintro e w6 ⟨rfl, hb6⟩
  have H6 := Lib.hid (below_step H5.out hb6)
  clear hb6
  go_wp2_with fail
  go_ret
  exact ⟨rfl, H6.out⟩
end Go.Proofs.YtakbjmmelfcjeaaDoor
