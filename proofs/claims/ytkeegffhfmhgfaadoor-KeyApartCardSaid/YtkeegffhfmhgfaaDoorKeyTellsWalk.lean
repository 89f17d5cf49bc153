/- The laws KeyTells and KeyStripes, walked. -/
import Derived.Test.YtkeegffhfmhgfaaDoorKeyPure
import Derived.Test.YtkeegffhfmhgfaaDoorKeyAwake
set_option linter.unusedVariables false
set_option linter.unusedSimpArgs false
namespace Go.Proofs.YtkeegffhfmhgfaaDoor
open Go.RowKit Go.Proofs.YtkeegffhfmhgfaaDoorW.PrintWords Go.Proofs.YtkeegffhfmhgfaaDoor.Plain Go.Proofs.YtkeegffhfmhgfaaDoor.PKey

theorem ofB_size (base s : ByteArray) (has : Bool) : (ofB base has s).size ≤ 2 * base.size + s.size + 3 := by
  have hd := decB_size base.size
  have z1 : (⟨#[58]⟩ : ByteArray).size = 1 := rfl
  have z0 : (⟨#[45]⟩ : ByteArray).size = 1 := rfl
  have z2 := size_append (decB base.size) ⟨#[58]⟩
  have z3 := size_append (decB base.size ++ (⟨#[58]⟩ : ByteArray)) base
  have z4 := size_append ((decB base.size ++ (⟨#[58]⟩ : ByteArray)) ++ base) s
  have z5 := size_append (⟨#[45]⟩ : ByteArray) s
  unfold ofB
  split <;> omega

set_option maxHeartbeats 2000000 in
theorem tells_calls (base s : ByteArray) (n : Int) (w : World) (hk : KW w) (hn : n ≤ 9223372036854775807) :
    Calls Tryd.prog 3 #[.string base, .string s, .int .i64 n] w fun e w' => e = .returned (.bool true) ∧ Below w.heap.size w w' := by
  have HK := Lib.hid hk
  have HN := Lib.hid hn
  clear hk hn
  by_cases h80 : (100 : Int) < (base.size : Int)
  · go_enter Tryd.func3, Tryd.ntmps3
    go_wp2_with (go_at_call 8; refine (awake_calls _ HK.out).mono ?_; rintro e w1 ⟨rfl, hb1⟩)
    go_ret
    exact ⟨rfl, hb1⟩
  by_cases h81 : (100 : Int) < (s.size : Int)
  · go_enter Tryd.func3, Tryd.ntmps3
    go_wp2_with (go_at_call 8; refine (awake_calls _ HK.out).mono ?_; rintro e w1 ⟨rfl, hb1⟩)
    go_ret
    exact ⟨rfl, hb1⟩
  have hs : s.size ≤ 140737488351232 := by omega
  have hb : base.size ≤ 1000000 := by omega
  have hz := ofB_size base s true
  obtain ⟨k1, hk1⟩ := (refof_is base s true hb hs).rounds
  obtain ⟨k2, hk2⟩ := (refof_is base s false hb hs).rounds
  obtain ⟨k3, hk3⟩ := (refhash_is s hs).rounds
  obtain ⟨k4, hk4⟩ := (refstripe_is (ofB base true s) n (by omega) HN.out).rounds
  have R1 := Lib.hid hk1
  have R2 := Lib.hid hk2
  have R3 := Lib.hid hk3
  have R4 := Lib.hid hk4
  have P3 := Lib.hid (hash_is s hs)
  have P4 := Lib.hid (stripe_is (ofB base true s) n (by omega) HN.out)
  have O1 : ∀ w : World, KW w → Calls Tryd.prog 9 #[.string base, .bool true, .string s] w fun e w' => e = .returned (.string (ofB base true s)) ∧ Below w.heap.size w w' := fun w hk => of_calls base s true w hk hb hs
  have O2 : ∀ w : World, KW w → Calls Tryd.prog 9 #[.string base, .bool false, .string s] w fun e w' => e = .returned (.string (ofB base false s)) ∧ Below w.heap.size w w' := fun w hk => of_calls base s false w hk hb hs
  have HO1 := Lib.hid O1
  have HO2 := Lib.hid O2
  clear hk1 hk2 hk3 hk4 O1 O2 hz
  generalize ofB base true s = x at *
  generalize ofB base false s = y at *
  generalize hashR s.data.toList hfirst = hh at *
  generalize stripeV x n = st at *
  go_enter Tryd.func3, Tryd.ntmps3
  go_wp2_with fail
  refine (awake_calls _ HK.out).mono ?_
  rintro e w1 ⟨rfl, hb1⟩
  have H1 := Lib.hid hb1
  have K1 := Lib.hid (HK.out.keep hb1)
  clear hb1
  go_wp2_with fail
  refine (HO1.out _ K1.out).mono ?_
  rintro e w2 ⟨rfl, hb2⟩
  have H2 := Lib.hid (below_step H1.out hb2)
  have K2 := Lib.hid (K1.out.keep hb2)
  clear hb2
  go_wp2_with fail
  refine (HO2.out _ K2.out).mono ?_
  rintro e w3 ⟨rfl, hb3⟩
  have H3 := Lib.hid (below_step H2.out hb3)
  clear hb3
  go_wp2_with fail
  refine (gatepostref18_Of.calls k1 _ _ _ _ _ R1.out).mono ?_
  rintro e w4 ⟨rfl, hb4⟩
  have H4 := Lib.hid (below_step H3.out hb4)
  clear hb4
  go_wp2_with fail
  refine (gatepostref18_Of.calls k2 _ _ _ _ _ R2.out).mono ?_
  rintro e w5 ⟨rfl, hb5⟩
  have H5 := Lib.hid (below_step H4.out hb5)
  clear hb5
  go_wp2_with fail
  refine (key_Hash.calls _ _ _ P3.out).mono ?_
  rintro e w6 ⟨rfl, hb6⟩
  have H6 := Lib.hid (below_step H5.out hb6)
  clear hb6
  go_wp2_with fail
  refine (gatepostref18_Hash.calls k3 _ _ _ R3.out).mono ?_
  rintro e w7 ⟨rfl, hb7⟩
  have H7 := Lib.hid (below_step H6.out hb7.below)
  clear hb7
  go_wp2_with fail
  refine (key_Stripe.calls _ _ _ _ P4.out).mono ?_
  rintro e w8 ⟨rfl, hb8⟩
  have H8 := Lib.hid (below_step H7.out hb8)
  clear hb8
  go_wp2_with fail
  refine (gatepostref18_Stripe.calls k4 _ _ _ _ R4.out).mono ?_
  rintro e w9 ⟨rfl, hb9⟩
  have H9 := Lib.hid (below_step H8.out hb9.below)
  clear hb9
  go_wp2_with fail
  go_ret
  exact ⟨rfl, H9.out⟩
end Go.Proofs.YtkeegffhfmhgfaaDoor
