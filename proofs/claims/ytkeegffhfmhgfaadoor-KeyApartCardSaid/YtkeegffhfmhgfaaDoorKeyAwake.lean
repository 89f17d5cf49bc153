/- The key laws' awake. -/
import Derived.Test.YtkeegffhfmhgfaaDoorKeyBack
import Derived.Test.YtkeegffhfmhgfaaDoorKeyHash
import Derived.Test.YtkeegffhfmhgfaaDoorPKeyx4
set_option linter.unusedVariables false
set_option linter.unusedSimpArgs false
namespace Go.Proofs.YtkeegffhfmhgfaaDoor
open Go.RowKit Go.Proofs.YtkeegffhfmhgfaaDoorW.PrintWords Go.Proofs.YtkeegffhfmhgfaaDoor.Plain Go.Proofs.YtkeegffhfmhgfaaDoor.PKey

theorem dec1 : Lib.decDigits 1 = [49] := by rw [Lib.decDigits, dif_pos (by decide)]; rfl
theorem dec0 : Lib.decDigits 0 = [48] := by rw [Lib.decDigits, dif_pos (by decide)]; rfl
theorem dec2 : Lib.decDigits 2 = [50] := by rw [Lib.decDigits, dif_pos (by decide)]; rfl
theorem dec3 : Lib.decDigits 3 = [51] := by rw [Lib.decDigits, dif_pos (by decide)]; rfl
theorem aw_b1 : backR ⟨#[49, 58, 97, 98]⟩ = (⟨#[97]⟩, true, ⟨#[98]⟩, true) := by
  have h1 : Lib.indexByte (⟨#[49, 58, 97, 98]⟩ : ByteArray).data.toList 58 = 1 := by decide +kernel
  have h2 : lenOf ⟨#[49, 58, 97, 98]⟩ 1 = some 1 := (lenOf_some (by decide)).2 ⟨by decide, by rw [dec1]; rfl⟩
  unfold backR
  rw [if_neg (by decide), h1, if_neg (by decide), show (1 : Int).toNat = 1 from rfl, h2]
  decide +kernel
theorem aw_b2 : backR ⟨#[48, 49, 58, 97, 98]⟩ = none4 := by
  have h1 : Lib.indexByte (⟨#[48, 49, 58, 97, 98]⟩ : ByteArray).data.toList 58 = 2 := by decide +kernel
  have h2 : lenOf ⟨#[48, 49, 58, 97, 98]⟩ 2 = none := by
    cases h : lenOf ⟨#[48, 49, 58, 97, 98]⟩ 2 with
    | none => rfl
    | some n =>
      obtain ⟨h3, h4⟩ := (lenOf_some (by decide)).1 h
      have h5 : n < 3 := h3
      have h6 : Lib.decDigits n = [48, 49] := h4
      have : n = 0 ∨ n = 1 ∨ n = 2 := by omega
      rcases this with rfl | rfl | rfl
      · rw [dec0] at h6; cases h6
      · rw [dec1] at h6; cases h6
      · rw [dec2] at h6; cases h6
  unfold backR
  rw [if_neg (by decide), h1, if_neg (by decide), show (2 : Int).toNat = 2 from rfl, h2]
theorem aw_o1 : ofB ⟨#[97]⟩ true ⟨#[98]⟩ = ⟨#[49, 58, 97, 98]⟩ := by
  have : decB (⟨#[97]⟩ : ByteArray).size = ⟨#[49]⟩ := by unfold decB; rw [show (⟨#[97]⟩ : ByteArray).size = 1 from rfl, dec1]
  unfold ofB
  rw [if_pos rfl, this]
  decide +kernel
theorem aw_o2 : ofB ⟨#[]⟩ false ⟨#[98]⟩ = ⟨#[45, 98]⟩ := by unfold ofB; rw [if_neg (by decide)]; decide +kernel
theorem aw_h1 : key_Hash.f ⟨#[]⟩ = some 14695981039346656037 := by decide +kernel
theorem aw_h2 : key_Hash.f ⟨#[97]⟩ = some 12638187200555641996 := by decide +kernel
theorem aw_s : key_Stripe.f ⟨#[97]⟩ 0 = some 0 := by decide +kernel
theorem back_at (s : ByteArray) (a : ByteArray) (b : Bool) (c : ByteArray) (d : Bool) (w : World) (hk : KW w) (hs : s.size ≤ 140737488351232) (h : backR s = (a, b, c, d)) :
    Calls Tryd.prog 15 #[.string s] w fun e w' => e = .returned (.tuple #[.string a, .bool b, .string c, .bool d]) ∧ Below w.heap.size w w' := by
  refine (back_calls s w hk hs).mono ?_
  rintro e w' ⟨he, hb⟩
  rw [h] at he
  exact ⟨he, hb⟩
theorem of_at (base s r : ByteArray) (has : Bool) (w : World) (hk : KW w) (h1 : base.size ≤ 1000000) (h2 : s.size ≤ 140737488351232) (h : ofB base has s = r) :
    Calls Tryd.prog 9 #[.string base, .bool has, .string s] w fun e w' => e = .returned (.string r) ∧ Below w.heap.size w w' := by
  rw [← h]
  exact of_calls base s has w hk h1 h2
set_option maxHeartbeats 2000000 in
theorem awake_calls (w : World) (hk : KW w) :
    Calls Tryd.prog 8 #[] w fun e w' => e = .returned (.bool true) ∧ Below w.heap.size w w' := by
  have HK := Lib.hid hk
  clear hk
  go_enter Tryd.func8, Tryd.ntmps8
  go_wp2_with fail
  refine (back_at _ _ _ _ _ _ HK.out (by decide) aw_b1).mono ?_
  rintro e w1 ⟨rfl, hb1⟩
  have H1 := Lib.hid hb1
  have K1 := Lib.hid (HK.out.keep hb1)
  clear hb1
  go_wp2_with fail
  refine (back_at _ _ _ _ _ _ K1.out (by decide) aw_b2).mono ?_
  rintro e w2 ⟨rfl, hb2⟩
  have H2 := Lib.hid (below_step H1.out hb2)
  have K2 := Lib.hid (K1.out.keep hb2)
  clear hb2
  go_wp2_with fail
  refine (of_at _ _ _ _ _ K2.out (by decide) (by decide) aw_o1).mono ?_
  rintro e w3 ⟨rfl, hb3⟩
  have H3 := Lib.hid (below_step H2.out hb3)
  have K3 := Lib.hid (K2.out.keep hb3)
  clear hb3
  go_wp2_with fail
  refine (of_at _ _ _ _ _ K3.out (by decide) (by decide) aw_o2).mono ?_
  rintro e w4 ⟨rfl, hb4⟩
  have H4 := Lib.hid (below_step H3.out hb4)
  clear hb4
  go_wp2_with fail
  refine (key_Hash.calls _ _ _ aw_h1).mono ?_
  rintro e w5 ⟨rfl, hb5⟩
  have H5 := Lib.hid (below_step H4.out hb5)
  clear hb5
  go_wp2_with fail
  refine (key_Hash.calls _ _ _ aw_h2).mono ?_
  rintro e w6 ⟨rfl, hb6⟩
  have H6 := Lib.hid (below_step H5.out hb6)
  clear hb6
  go_wp2_with fail
  refine (key_Stripe.calls _ _ _ _ aw_s).mono ?_
  rintro e w7 ⟨rfl, hb7⟩
  have H7 := Lib.hid (below_step H6.out hb7)
  clear hb7
  go_wp2_with fail
  go_ret
  exact ⟨rfl, H7.out⟩
end Go.Proofs.YtkeegffhfmhgfaaDoor
