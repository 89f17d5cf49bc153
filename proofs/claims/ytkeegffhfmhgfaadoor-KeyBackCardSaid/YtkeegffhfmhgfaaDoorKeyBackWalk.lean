/- The laws KeyBacks, KeyBack and KeyApart, walked. -/
import Derived.Test.YtkeegffhfmhgfaaDoorKeyBackPure
import Derived.Test.YtkeegffhfmhgfaaDoorKeyAwake
import Derived.Test.YtkeegffhfmhgfaaDoorKeyTellsWalk
set_option linter.unusedVariables false
set_option linter.unusedSimpArgs false
namespace Go.Proofs.YtkeegffhfmhgfaaDoor
open Go.RowKit Go.Proofs.YtkeegffhfmhgfaaDoorW.PrintWords Go.Proofs.YtkeegffhfmhgfaaDoor.Plain Go.Proofs.YtkeegffhfmhgfaaDoor.PKey

set_option maxHeartbeats 2000000 in
theorem backs_calls (s : ByteArray) (w : World) (hk : KW w) :
    Calls Tryd.prog 4 #[.string s] w fun e w' => e = .returned (.bool true) ∧ Below w.heap.size w w' := by
  have HK := Lib.hid hk
  clear hk
  by_cases h81 : (300 : Int) < (s.size : Int)
  · go_enter Tryd.func4, Tryd.ntmps4
    go_wp2_with (go_at_call 8; refine (awake_calls _ HK.out).mono ?_; rintro e w1 ⟨rfl, hb1⟩)
    go_ret
    exact ⟨rfl, hb1⟩
  have hs : s.size ≤ 140737488351232 := by omega
  have hs3 : s.size ≤ 300 := by omega
  obtain ⟨k1, hk1⟩ := (refback_is s hs3).rounds
  obtain ⟨a, b, c, d, hr⟩ : ∃ a b c d, backR s = (a, b, c, d) := ⟨_, _, _, _, rfl⟩
  rw [hr] at hk1
  have B := Lib.hid (fun (w : World) (hk : KW w) => back_at s a b c d w hk hs hr)
  have R1 := Lib.hid hk1
  have D : Hid (d = true → ofB a b c = s ∧ a.size ≤ s.size ∧ c.size ≤ s.size) := Lib.hid (by rintro rfl; exact backR_ok hs hr)
  clear hk1 hr
  go_enter Tryd.func4, Tryd.ntmps4
  go_wp2_with fail
  refine (awake_calls _ HK.out).mono ?_
  rintro e w1 ⟨rfl, hb1⟩
  have H1 := Lib.hid hb1
  have K1 := Lib.hid (HK.out.keep hb1)
  clear hb1
  go_wp2_with fail
  refine (B.out _ K1.out).mono ?_
  rintro e w2 ⟨rfl, hb2⟩
  have H2 := Lib.hid (below_step H1.out hb2)
  have K2 := Lib.hid (K1.out.keep hb2)
  clear hb2
  go_wp2_with fail
  refine (gatepostref18_Back.calls k1 _ _ _ _ _ _ R1.out).mono ?_
  rintro e w3 ⟨rfl, hb3⟩
  have H3 := Lib.hid (below_step H2.out hb3)
  have K3 := Lib.hid (K2.out.keep hb3)
  clear hb3
  cases d with
  | false =>
    go_wp2_with fail
    go_ret
    exact ⟨rfl, H3.out⟩
  | true =>
    obtain ⟨d1, d2, d3⟩ := D.out rfl
    have D1 := Lib.hid d1
    clear D d1
    go_wp2_with fail
    refine (of_at a c s b _ K3.out (by omega) (by omega) D1.out).mono ?_
    rintro e w4 ⟨rfl, hb4⟩
    have H4 := Lib.hid (below_step H3.out hb4)
    clear hb4
    go_wp2_with fail
    go_ret
    exact ⟨rfl, H4.out⟩

set_option maxHeartbeats 2000000 in
theorem back_law_calls (base s : ByteArray) (has : Bool) (w : World) (hk : KW w) :
    Calls Tryd.prog 5 #[.string base, .bool has, .string s] w fun e w' => e = .returned (.bool true) ∧ Below w.heap.size w w' := by
  have HK := Lib.hid hk
  clear hk
  by_cases h80 : (100 : Int) < (base.size : Int)
  · go_enter Tryd.func5, Tryd.ntmps5
    go_wp2_with (go_at_call 8; refine (awake_calls _ HK.out).mono ?_; rintro e w1 ⟨rfl, hb1⟩)
    go_ret
    exact ⟨rfl, hb1⟩
  by_cases h81 : (100 : Int) < (s.size : Int)
  · go_enter Tryd.func5, Tryd.ntmps5
    go_wp2_with (go_at_call 8; refine (awake_calls _ HK.out).mono ?_; rintro e w1 ⟨rfl, hb1⟩)
    go_ret
    exact ⟨rfl, hb1⟩
  have hs : s.size ≤ 140737488351232 := by omega
  have hb : base.size ≤ 1000000 := by omega
  have hx : (ofB base has s).size ≤ 140737488351232 := by have := ofB_size base s has; omega
  have O := Lib.hid (fun (w : World) (hk : KW w) => of_calls base s has w hk hb hs)
  have hr := backR_of base s has hb (by omega)
  generalize ofB base has s = x at *
  cases has
  all_goals
    have B := Lib.hid (fun (w : World) (hk : KW w) => back_at x _ _ _ _ w hk hx hr)
    clear hr
    simp only [Bool.false_eq_true, if_false, if_true] at B
    go_enter Tryd.func5, Tryd.ntmps5
    go_wp2_with fail
    refine (awake_calls _ HK.out).mono ?_
    rintro e w1 ⟨rfl, hb1⟩
    have H1 := Lib.hid hb1
    have K1 := Lib.hid (HK.out.keep hb1)
    clear hb1
    go_wp2_with fail
    refine (O.out _ K1.out).mono ?_
    rintro e w2 ⟨rfl, hb2⟩
    have H2 := Lib.hid (below_step H1.out hb2)
    have K2 := Lib.hid (K1.out.keep hb2)
    clear hb2
    go_wp2_with fail
    refine (B.out _ K2.out).mono ?_
    rintro e w3 ⟨rfl, hb3⟩
    have H3 := Lib.hid (below_step H2.out hb3)
    clear hb3
    go_wp2_with fail
    go_ret
    exact ⟨rfl, H3.out⟩
end Go.Proofs.YtkeegffhfmhgfaaDoor
