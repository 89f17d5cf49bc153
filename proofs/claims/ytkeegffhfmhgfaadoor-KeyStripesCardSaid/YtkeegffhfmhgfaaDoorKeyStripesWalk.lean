/- The law KeyStripes, walked. -/
import Derived.Test.YtkeegffhfmhgfaaDoorKeyPure
import Derived.Test.YtkeegffhfmhgfaaDoorKeyAwake
set_option linter.unusedVariables false
set_option linter.unusedSimpArgs false
namespace Go.Proofs.YtkeegffhfmhgfaaDoor
open Go.RowKit Go.Proofs.YtkeegffhfmhgfaaDoorW.PrintWords Go.Proofs.YtkeegffhfmhgfaaDoor.Plain Go.Proofs.YtkeegffhfmhgfaaDoor.PKey

theorem hstep_range (h : Int) (c : UInt8) : 0 ≤ hstep h c := by
  unfold hstep IntKind.wrap
  simp only [IntKind.signed, IntKind.bits, Bool.false_and, Bool.false_eq_true, if_false]
  omega
theorem hashR_range : ∀ (l : List UInt8) (h : Int), 0 ≤ h → 0 ≤ hashR l h
  | [], h, h0 => h0
  | c :: l, h, h0 => hashR_range l (hstep h c) (hstep_range h c)
theorem stripe_mod (s : ByteArray) (n : Nat) (h0 : 1 ≤ n) (h1 : n ≤ 1000000) : stripeV s n = hashR s.data.toList hfirst % (n : Int) := by
  have hh := hashR_range s.data.toList hfirst (by decide)
  unfold stripeV
  rw [if_neg (by omega), u64_in (by omega) (by omega)]
  generalize hashR s.data.toList hfirst = H at *
  rw [Int.tmod_eq_emod_of_nonneg hh]
  have h2 := Int.emod_nonneg H (show (n : Int) ≠ 0 by omega)
  have h3 := Int.emod_lt_of_pos H (show (0 : Int) < n by omega)
  exact wrap_in (by omega) (by omega)
theorem stripe_low (s : ByteArray) (n : Int) (h : n < 1) : stripeV s n = 0 := by unfold stripeV; rw [if_pos h]

set_option maxHeartbeats 2000000 in
theorem stripes_calls (s : ByteArray) (n m : Nat) (w : World) (hk : KW w) (hn : n ≤ 255) (hm : m ≤ 255) :
    Calls Tryd.prog 7 #[.string s, .int .u8 n, .int .u8 m] w fun e w' => e = .returned (.bool true) ∧ Below w.heap.size w w' := by
  have HK := Lib.hid hk
  clear hk
  by_cases h81 : (100 : Int) < (s.size : Int)
  · go_enter Tryd.func7, Tryd.ntmps7
    go_wp2_with (go_at_call 8; refine (awake_calls _ HK.out).mono ?_; rintro e w1 ⟨rfl, hb1⟩)
    go_ret
    exact ⟨rfl, hb1⟩
  have hs : s.size ≤ 140737488351232 := by omega
  have hab : (1 + n) * (1 + m) ≤ 65536 := Nat.mul_le_mul (show 1 + n ≤ 256 by omega) (show 1 + m ≤ 256 by omega)
  have hab1 : 1 ≤ (1 + n) * (1 + m) := Nat.mul_le_mul (show 1 ≤ 1 + n by omega) (show 1 ≤ 1 + m by omega)
  have s1 := stripe_is s ((1 + n : Nat) : Int) hs (by omega)
  have s2 := stripe_is s 1 hs (by omega)
  have s3 := stripe_is s (((1 + n) * (1 + m) : Nat) : Int) hs (by omega)
  have s4 := stripe_is s (-((1 + n : Nat) : Int)) hs (by omega)
  rw [stripe_mod s (1 + n) (by omega) (by omega)] at s1
  rw [show (1 : Int) = ((1 : Nat) : Int) from rfl, stripe_mod s 1 (by omega) (by omega), show ((1 : Nat) : Int) = 1 from rfl] at s2
  rw [stripe_mod s ((1 + n) * (1 + m)) hab1 (by omega)] at s3
  rw [stripe_low s _ (by omega)] at s4
  generalize hashR s.data.toList hfirst = H at s1 s2 s3
  have e2 : H % (1 : Int) = 0 := Int.emod_one H
  rw [e2] at s2
  have e3 : H % (((1 + n) * (1 + m) : Nat) : Int) % ((1 + n : Nat) : Int) = H % ((1 + n : Nat) : Int) := Int.emod_emod_of_dvd H (by rw [Int.natCast_mul]; exact Int.dvd_mul_right _ _)
  have b1 := Int.emod_nonneg H (show ((1 + n : Nat) : Int) ≠ 0 by omega)
  have b2 := Int.emod_lt_of_pos H (show (0 : Int) < ((1 + n : Nat) : Int) by omega)
  have b3 := Int.emod_nonneg H (show (((1 + n) * (1 + m) : Nat) : Int) ≠ 0 by omega)
  have b4 := Int.emod_lt_of_pos H (show (0 : Int) < (((1 + n) * (1 + m) : Nat) : Int) by omega)
  have mul : (1 + (n : Int)) * (1 + (m : Int)) = (((1 + n) * (1 + m) : Nat) : Int) := by rw [Int.natCast_mul, Int.natCast_add, Int.natCast_add]; rfl
  generalize (1 + n) * (1 + m) = ab at *
  generalize H % ((1 + n : Nat) : Int) = k at *
  generalize H % (ab : Int) = q at *
  rw [show ((1 + n : Nat) : Int) = 1 + (n : Int) by omega] at s1 s4 e3 b2
  have S1 := Lib.hid s1
  have S2 := Lib.hid s2
  have S3 := Lib.hid s3
  have S4 := Lib.hid s4
  have E3 := Lib.hid e3
  have MUL := Lib.hid mul
  clear s1 s2 s3 s4 e2 e3 mul
  go_enter Tryd.func7, Tryd.ntmps7
  go_wp2_with fail
  refine (awake_calls _ HK.out).mono ?_
  rintro e w1 ⟨rfl, hb1⟩
  have H1 := Lib.hid hb1
  clear hb1
  go_wp2_with fail
  refine (key_Stripe.calls s (1 + (n : Int)) _ w1 S1.out).mono ?_
  rintro e w2 ⟨rfl, hb2⟩
  have H2 := Lib.hid (below_step H1.out hb2)
  clear hb2
  go_wp2_with fail
  refine (key_Stripe.calls s 1 _ w2 S2.out).mono ?_
  rintro e w3 ⟨rfl, hb3⟩
  have H3 := Lib.hid (below_step H2.out hb3)
  clear hb3
  go_wp2_with fail
  rw [show wrap64 ((1 + (n : Int)) * (1 + (m : Int))) = (ab : Int) by rw [MUL.out]; exact wrap_in (by omega) (by omega)]
  refine (key_Stripe.calls s (ab : Int) _ w3 S3.out).mono ?_
  rintro e w4 ⟨rfl, hb4⟩
  have H4 := Lib.hid (below_step H3.out hb4)
  clear hb4
  go_wp2_with fail
  refine (key_Stripe.calls s (-(1 + (n : Int))) _ w4 S4.out).mono ?_
  rintro e w5 ⟨rfl, hb5⟩
  have H5 := Lib.hid (below_step H4.out hb5)
  clear hb5
  go_wp2_with fail
  all_goals go_ret
  exact ⟨rfl, H5.out⟩
end Go.Proofs.YtkeegffhfmhgfaaDoor
