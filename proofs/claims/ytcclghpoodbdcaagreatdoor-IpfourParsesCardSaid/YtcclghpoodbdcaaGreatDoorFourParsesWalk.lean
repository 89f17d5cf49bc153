/- IpfourParses, walked: the address that any text is, or what forbids it; and whether it ends as one. -/
import Derived.Test.YtcclghpoodbdcaaGreatDoorFourAwake
import Derived.Test.YtcclghpoodbdcaaGreatDoorFourRef
import Derived.Test.YtcclghpoodbdcaaGreatDoorErrCode
set_option linter.unusedVariables false
set_option linter.unusedSimpArgs false
set_option maxRecDepth 100000
namespace Go.Proofs.YtcclghpoodbdcaaGreatDoor
open Go.RowKit Go.Proofs.YtcclghpoodbdcaaGreatDoor.PFour Four

theorem codeF_calls {w : World} {c : Nat} {v : Value} (h : ErrF w c v) (hg : ErrType w) : Calls Tryz.prog 7 #[v] w fun e w' => e = .returned (.int .i64 c) ∧ Below w.heap.size w w' := by
  rcases h with ⟨rfl, rfl⟩ | ⟨_, l, h⟩
  · exact code_nil w
  · exact code_chain l v c w h hg
set_option maxHeartbeats 4000000 in
theorem parses_calls (s : ByteArray) (w : World) (hF : FW w) (hE : ErrType w) : Calls Tryz.prog 3 #[.string s] w fun e w' => e = .returned (.bool true) ∧ Below w.heap.size w w' := by
  have HF := Lib.hid hF
  have HE := Lib.hid hE
  clear hF hE
  by_cases h80 : (80 : Int) < (s.size : Int)
  · go_enter Tryz.func3, Tryz.ntmps3
    go_wp2_with fail
    refine (awake_calls HF.out).mono ?_
    rintro e w1 ⟨rfl, hb⟩
    go_wp2_with fail
    go_ret
    exact ⟨rfl, hb⟩
  · have hs : s.size ≤ 1000 := by omega
    obtain ⟨k1, hk1⟩ := (parse_ref s hs).rounds
    obtain ⟨k2, hk2⟩ := (ends_ref s hs).rounds
    obtain ⟨R, hR⟩ : ∃ R, R = parseL s.data.toList := ⟨_, rfl⟩
    obtain ⟨B, hB⟩ : ∃ B, B = endsL s.data.toList := ⟨_, rfl⟩
    have HP := Lib.hid (fun (W : World) (h : FW W) => parse_calls s h hs)
    have HN := Lib.hid (fun (W : World) (h : FW W) => ends_calls s h hs)
    rw [← hR] at hk1 HP
    rw [← hB] at hk2 HN
    have HK1 := Lib.hid (fun W => gatepostref07_Parse.calls k1 s _ _ W hk1)
    have HK2 := Lib.hid (fun W => gatepostref07_Ends.calls k2 s _ W hk2)
    clear hk1 hk2 hR hB hs
    obtain ⟨a, c⟩ := R
    go_enter Tryz.func3, Tryz.ntmps3
    go_wp2_with fail
    refine (awake_calls HF.out).mono ?_
    rintro e w1 ⟨rfl, hb⟩
    have H1 := Lib.hid hb
    clear hb
    go_wp2_with fail
    refine (HP.out _ (HF.out.keep H1.out)).mono ?_
    rintro e w2 ⟨⟨v, rfl, hv⟩, hb⟩
    have H2 := Lib.hid (belowOn H1.out H1.out.size hb)
    have HV := Lib.hid hv
    clear hb hv
    go_wp2_with fail
    refine (HK1.out _).mono ?_
    rintro e w3 ⟨rfl, hb⟩
    have H3 := Lib.hid (belowOn H2.out H2.out.size hb)
    have HV3 := Lib.hid (HV.out.keep hb)
    clear hb HV
    go_wp2_with fail
    refine (codeF_calls HV3.out (HE.out.keep H3.out)).mono ?_
    rintro e w4 ⟨rfl, hb⟩
    have H4 := Lib.hid (belowOn H3.out H3.out.size hb)
    clear hb
    go_wp2_with fail
    refine (HN.out _ (HF.out.keep H4.out)).mono ?_
    rintro e w5 ⟨rfl, hb⟩
    have H5 := Lib.hid (belowOn H4.out H4.out.size hb)
    clear hb
    go_wp2_with fail
    refine (HK2.out _).mono ?_
    rintro e w6 ⟨rfl, hb⟩
    have H6 := Lib.hid (belowOn H5.out H5.out.size hb)
    clear hb
    go_wp2_with fail
    go_ret
    exact ⟨by simp, H6.out⟩
end Go.Proofs.YtcclghpoodbdcaaGreatDoor
