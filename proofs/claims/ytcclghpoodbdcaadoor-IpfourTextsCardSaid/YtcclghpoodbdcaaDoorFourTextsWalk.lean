/- IpfourTexts, walked: any address as a name. -/
import Derived.Test.YtcclghpoodbdcaaDoorFourRefText
set_option linter.unusedVariables false
set_option linter.unusedSimpArgs false
set_option maxRecDepth 100000
namespace Go.Proofs.YtcclghpoodbdcaaDoor
open Go.RowKit Four

theorem texts_calls (a : Nat) (ha : a < 4294967296) (w : World) (hF : FW w) : Calls Tryd.prog 3 #[.int .u32 a] w fun e w' => e = .returned (.bool true) ∧ Below w.heap.size w w' := by
  have HF := Lib.hid hF
  have ht := fun (W : World) (h : FW W) => text_calls a ha h
  have hr := fun (W : World) => reftext_calls a ha W
  generalize mkB (textL a) = T at ht hr
  have HT := Lib.hid ht
  have HR := Lib.hid hr
  clear hF ht hr ha
  go_enter Tryd.func3, Tryd.ntmps3
  go_wp2_with fail
  refine (awake_calls HF.out).mono ?_
  rintro e w1 ⟨rfl, hb⟩
  have H1 := Lib.hid hb
  clear hb
  go_wp2_with fail
  refine (HT.out _ (HF.out.keep H1.out)).mono ?_
  rintro e w2 ⟨rfl, hb⟩
  have H2 := Lib.hid (belowOn H1.out H1.out.size hb)
  clear hb
  go_wp2_with fail
  refine (HR.out _).mono ?_
  rintro e w3 ⟨rfl, hb⟩
  have H3 := Lib.hid (belowOn H2.out H2.out.size hb)
  clear hb
  go_wp2_with fail
  go_ret
  exact ⟨by simp, H3.out⟩
end Go.Proofs.YtcclghpoodbdcaaDoor
