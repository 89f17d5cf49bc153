/- IpfourEnds, walked: a text that is an address ends as one; one that doesn't end as one is none. -/
import Derived.Test.YtcclghpoodbdcaaDoorFourAwake
set_option linter.unusedVariables false
set_option linter.unusedSimpArgs false
set_option maxRecDepth 100000
namespace Go.Proofs.YtcclghpoodbdcaaDoor
open Go.RowKit Four

set_option maxHeartbeats 4000000 in
theorem endsLaw_calls (s : ByteArray) (w : World) (hF : FW w) : Calls Tryd.prog 5 #[.string s] w fun e w' => e = .returned (.bool true) ∧ Below w.heap.size w w' := by
  have HF := Lib.hid hF
  clear hF
  by_cases h80 : (80 : Int) < (s.size : Int)
  · go_enter Tryd.func5, Tryd.ntmps5
    go_wp2_with fail
    refine (awake_calls HF.out).mono ?_
    rintro e w1 ⟨rfl, hb⟩
    go_wp2_with fail
    go_ret
    exact ⟨rfl, hb⟩
  · have hs : s.size ≤ 1000 := by omega
    cases hp : parseL s.data.toList with
    | mk a c =>
    have hlt := parseL_lt s.data.toList
    rw [hp] at hlt
    by_cases hc : c = 0
    · subst hc
      have HP := Lib.hid (fun (W : World) (h : FW W) => parse_ok s a h hs hp)
      have hE := fun (W : World) (h : FW W) => ends_calls s h hs
      rw [ends_of_parse (l := s.data.toList) (by rw [hp])] at hE
      have HE := Lib.hid hE
      have HT := Lib.hid (fun (W : World) (h : FW W) => text_calls a hlt h)
      have HP2 := Lib.hid (fun (W : World) (h : FW W) => parse_ok (mkB (textL a)) a h (by rw [mkB_size]; have := text_len a; omega) (by rw [mkB_data]; exact parse_text a hlt))
      clear hp hlt hE hs
      go_enter Tryd.func5, Tryd.ntmps5
      go_wp2_with fail
      refine (awake_calls HF.out).mono ?_
      rintro e w1 ⟨rfl, hb⟩
      have H1 := Lib.hid hb
      clear hb
      go_wp2_with fail
      refine (HP.out _ (HF.out.keep H1.out)).mono ?_
      rintro e w2 ⟨rfl, hb⟩
      have H2 := Lib.hid (belowOn H1.out H1.out.size hb)
      clear hb
      go_wp2_with fail
      refine (HT.out _ (HF.out.keep H2.out)).mono ?_
      rintro e w3 ⟨rfl, hb⟩
      have H3 := Lib.hid (belowOn H2.out H2.out.size hb)
      clear hb
      go_wp2_with fail
      refine (HP2.out _ (HF.out.keep H3.out)).mono ?_
      rintro e w4 ⟨rfl, hb⟩
      have H4 := Lib.hid (belowOn H3.out H3.out.size hb)
      clear hb
      go_wp2_with fail
      refine (HE.out _ (HF.out.keep H4.out)).mono ?_
      rintro e w5 ⟨rfl, hb⟩
      have H5 := Lib.hid (belowOn H4.out H4.out.size hb)
      clear hb
      go_wp2_with fail
      go_ret
      exact ⟨rfl, H5.out⟩
    · have ha : a = 0 := by
        have hq : parseL s.data.toList = (a, c) := hp
        unfold parseL at hq
        split at hq
        · cases hj : joinN ((partsL s.data.toList).map fun p => (numL p).getD 0) with
          | none => rw [hj] at hq; exact (congrArg Prod.fst hq).symm
          | some x => rw [hj] at hq; exact absurd (congrArg Prod.snd hq).symm hc
        · exact (congrArg Prod.fst hq).symm
      subst ha
      have HP := Lib.hid (fun (W : World) (h : FW W) => parse_err s c hc h hs hp)
      clear hp hlt hs hc
      go_enter Tryd.func5, Tryd.ntmps5
      go_wp2_with fail
      refine (awake_calls HF.out).mono ?_
      rintro e w1 ⟨rfl, hb⟩
      have H1 := Lib.hid hb
      clear hb
      go_wp2_with fail
      refine (HP.out _ (HF.out.keep H1.out)).mono ?_
      rintro e w2 ⟨⟨t, x, rfl, _⟩, hb⟩
      have H2 := Lib.hid (belowOn H1.out H1.out.size hb)
      clear hb
      go_wp2_with fail
      go_ret
      exact ⟨rfl, H2.out⟩
end Go.Proofs.YtcclghpoodbdcaaDoor
