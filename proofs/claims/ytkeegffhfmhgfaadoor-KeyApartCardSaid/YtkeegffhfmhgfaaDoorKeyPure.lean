/- The reference's keys in plain lists. -/
import Derived.Test.YtkeegffhfmhgfaaDoorKeyBack
import Derived.Test.YtkeegffhfmhgfaaDoorKeyHash
import Derived.Test.YtkeegffhfmhgfaaDoorPKeyx4
import Derived.Test.YtkeegffhfmhgfaaDoorPKeyx1
import Derived.Test.YtkeegffhfmhgfaaDoorPKeyx3
import Derived.Test.YtkeegffhfmhgfaaDoorPKeyx3
import Derived.Test.YtkeegffhfmhgfaaDoorPKeyx2
set_option linter.unusedVariables false
set_option linter.unusedSimpArgs false
namespace Go.Proofs.YtkeegffhfmhgfaaDoor
open Go.RowKit Go.Proofs.YtkeegffhfmhgfaaDoorW.PrintWords Go.Proofs.YtkeegffhfmhgfaaDoor.Plain Go.Proofs.YtkeegffhfmhgfaaDoor.PKey

theorem strOf_digit {d : Nat} (h : d < 10) : strOfNums [wrap64 (48 + (d : Int)) % 256] = ⟨#[UInt8.ofNat (48 + d)]⟩ := by
  have : wrap64 (48 + (d : Int)) % 256 = 48 + (d : Int) := by rw [wrap_in (by omega) (by omega)]; omega
  unfold strOfNums
  rw [this]
  simp only [List.map_cons, List.map_nil]
  rw [show (48 + (d : Int)).toNat = 48 + d by omega]
theorem number_is (n : Nat) (hn : n ≤ 1000000000000) : Ev (fun k => gatepostref18_number.f k n) (decB n) := by
  induction n using Nat.strongRecOn with
  | _ n ih =>
    unfold decB Lib.decDigits
    split
    · rename_i h
      refine Ev.step (f := fun _ => some ⟨#[UInt8.ofNat (48 + n)]⟩) (fun k => ?_) (Ev.now _)
      simp only [gatepostref18_number.f]
      rw [if_pos (by omega), strOf_digit h]
    · rename_i h
      have hd : wrap64 (Int.tdiv (n : Int) 10) = ((n / 10 : Nat) : Int) := by rw [Int.tdiv_eq_ediv_of_nonneg (by omega), wrap_in (by omega) (by omega)]; omega
      have hm : Int.tmod (n : Int) 10 = ((n % 10 : Nat) : Int) := by rw [Int.tmod_eq_emod_of_nonneg (by omega)]; omega
      have hs := strOf_digit (d := n % 10) (by omega)
      refine Ev.step (f := fun k => (gatepostref18_number.f k ((n / 10 : Nat) : Int)).bind fun t => if t.size + (⟨#[UInt8.ofNat (48 + n % 10)]⟩ : ByteArray).size ≤ 9223372036854775807 then some (t ++ (⟨#[UInt8.ofNat (48 + n % 10)]⟩ : ByteArray)) else none) (fun k => ?_) (Ev.bind (ih (n / 10) (by omega) (by omega)) ?_)
      · simp only [gatepostref18_number.f]
        rw [if_neg (by omega), hd, hm]
        simp only [Option.bind_some, hs]
      · have hl := decB_size (n / 10)
        have h2 : (⟨#[UInt8.ofNat (48 + n % 10)]⟩ : ByteArray).size = 1 := rfl
        rw [if_pos (by omega)]
        have he : decB (n / 10) ++ (⟨#[UInt8.ofNat (48 + n % 10)]⟩ : ByteArray) = ⟨(Lib.decDigits (n / 10) ++ [UInt8.ofNat (48 + n % 10)]).toArray⟩ := data_inj (by rw [append_data]; rfl)
        rw [he]
        exact Ev.now _
theorem refof_is (base s : ByteArray) (has : Bool) (h1 : base.size ≤ 1000000) (h2 : s.size ≤ 140737488351232) : Ev (fun k => gatepostref18_Of.f k base has s) (ofB base has s) := by
  unfold gatepostref18_Of.f ofB
  cases has with
  | false =>
    simp only [Bool.false_eq_true, if_false]
    rw [if_pos (by omega)]
    exact Ev.now _
  | true =>
    simp only [if_true]
    refine Ev.bind (number_is base.size (by omega)) ?_
    have hd := decB_size base.size
    have z1 : (⟨#[58]⟩ : ByteArray).size = 1 := rfl
    have z2 := size_append (decB base.size) ⟨#[58]⟩
    have z3 := size_append (decB base.size ++ (⟨#[58]⟩ : ByteArray)) base
    rw [if_pos (by omega), if_pos (by omega), if_pos (by omega)]
    exact Ev.now _
theorem refhash_loop (s : ByteArray) (hs : s.size ≤ 140737488351232) : ∀ (d i : Nat) (h : Int), i ≤ s.size → s.size - i = d → Ev (fun k => gatepostref18_Hash.l0 k s h i) (hashR (s.data.toList.drop i) h) := by
  intro d
  induction d with
  | zero =>
    intro i h hi hd
    rw [List.drop_eq_nil_of_le (by rw [len_data]; omega)]
    refine Ev.step (f := fun _ => some h) (fun k => ?_) (Ev.now _)
    simp only [gatepostref18_Hash.l0]
    rw [if_neg (by omega)]
  | succ d ih =>
    intro i h hi hd
    obtain ⟨c, hc⟩ := byte_some (s := s) (i := i) (by omega)
    have hdrop : s.data.toList.drop i = c :: s.data.toList.drop (i + 1) := by
      obtain ⟨hl, hg⟩ := List.getElem?_eq_some_iff.1 hc
      rw [List.drop_eq_getElem_cons hl, hg]
    have hw : wrap64 ((i : Int) + 1) = ((i + 1 : Nat) : Int) := by rw [wrap_in (by omega) (by omega)]; omega
    rw [hdrop]
    refine Ev.step (f := fun k => gatepostref18_Hash.l0 k s (hstep h c) ((i + 1 : Nat) : Int)) (fun k => ?_) (ih (i + 1) (hstep h c) (by omega) (by omega))
    simp only [gatepostref18_Hash.l0]
    rw [if_pos (by omega), if_pos (by omega), bt_nat s i c hc, hw]
    rfl
theorem refhash_is (s : ByteArray) (hs : s.size ≤ 140737488351232) : Ev (fun k => gatepostref18_Hash.f k s) (hashR s.data.toList hfirst) := by
  have := refhash_loop s hs s.size 0 14695981039346656037 (Nat.zero_le _) rfl
  rw [List.drop_zero] at this
  exact this
theorem hash_is (s : ByteArray) (hs : s.size ≤ 140737488351232) : key_Hash.f s = some (hashR s.data.toList hfirst) := by unfold key_Hash.f; rw [if_pos hs]
def stripeV (s : ByteArray) (n : Int) : Int := if n < 1 then 0 else wrap64 (Int.tmod (hashR s.data.toList hfirst) (IntKind.u64.wrap n))
theorem u64_in {n : Int} (h0 : 1 ≤ n) (h1 : n ≤ 9223372036854775807) : IntKind.u64.wrap n = n := by
  unfold IntKind.wrap
  simp only [IntKind.signed, IntKind.bits, Bool.false_and, Bool.false_eq_true, if_false]
  omega
theorem stripe_is (s : ByteArray) (n : Int) (hs : s.size ≤ 140737488351232) (h1 : n ≤ 9223372036854775807) : key_Stripe.f s n = some (stripeV s n) := by
  unfold key_Stripe.f stripeV
  by_cases h : n < 1
  · rw [if_pos h, if_pos h]
  · rw [if_neg h, if_neg h, hash_is s hs]
    simp only [Option.bind_some]
    rw [u64_in (by omega) h1, if_neg (by omega)]
theorem refstripe_is (s : ByteArray) (n : Int) (hs : s.size ≤ 140737488351232) (h1 : n ≤ 9223372036854775807) : Ev (fun k => gatepostref18_Stripe.f k s n) (stripeV s n) := by
  unfold gatepostref18_Stripe.f stripeV
  by_cases h : n < 1
  · rw [if_pos h]; simp only [if_pos h]; exact Ev.now _
  · rw [if_neg h]
    simp only [if_neg h]
    refine Ev.bind (refhash_is s hs) ?_
    rw [u64_in (by omega) h1, if_neg (by omega)]
    exact Ev.now _
end Go.Proofs.YtkeegffhfmhgfaaDoor
