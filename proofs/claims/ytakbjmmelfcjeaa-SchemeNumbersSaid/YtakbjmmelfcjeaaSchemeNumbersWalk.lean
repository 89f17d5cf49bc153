/- The law SchemeNumbers, walked: each port is told by its number, with noughts ahead, too. -/
import Derived.Test.YtakbjmmelfcjeaaPureScheme
import Derived.Test.YtakbjmmelfcjeaaSchemeAwake
import Derived.Test.YtakbjmmelfcjeaaPSchemex1
set_option linter.unusedVariables false
set_option linter.unusedSimpArgs false
namespace Go.Proofs.Ytakbjmmelfcjeaa
open Go.RowKit Go.Proofs.YtakbjmmelfcjeaaW.PrintWords Go.Proofs.Ytakbjmmelfcjeaa.PScheme Go.Proofs.Ytakbjmmelfcjeaa.Plain

/-! ### Numbers by base 10 -/
def decL (n : Nat) : List UInt8 := if n < 10 then [UInt8.ofNat (48 + n)] else decL (n / 10) ++ [UInt8.ofNat (48 + n % 10)]
def decB (n : Nat) : ByteArray := ⟨(decL n).toArray⟩
theorem decL_length (n : Nat) : 1 ≤ (decL n).length ∧ (decL n).length ≤ n + 1 := by
  induction n using Nat.strongRecOn with
  | _ n ih =>
    unfold decL
    split
    · simp
    · have := ih (n / 10) (by omega)
      simp
      omega
theorem portR_append : ∀ (l m : List UInt8) (n : Int), portR (l ++ m) n = (portR l n).bind (portR m)
  | [], m, n => rfl
  | c :: l, m, n => by
    simp only [List.cons_append, portR]
    split
    · exact portR_append l m _
    · rfl
theorem digit_nat {d : Nat} (h : d < 10) : ((UInt8.ofNat (48 + d)).toNat : Int) = 48 + d := by
  rw [UInt8.toNat_ofNat_of_lt' (by show _ < 256; omega)]; omega
theorem portR_dec (n : Nat) : portR (decL n) 0 = if n ≤ 65535 then some (n : Int) else none := by
  induction n using Nat.strongRecOn with
  | _ n ih =>
    unfold decL
    split
    · rename_i h
      simp only [portR, digit_nat h]
      rw [if_pos (by omega), if_pos (by omega)]
      congr 1
      omega
    · rename_i h
      rw [portR_append, ih (n / 10) (by omega)]
      by_cases h1 : n / 10 ≤ 65535
      · rw [if_pos h1]
        simp only [Option.bind_some, portR, digit_nat (show n % 10 < 10 by omega)]
        by_cases h2 : n ≤ 65535
        · rw [if_pos (by omega), if_pos h2]
          congr 1
          omega
        · rw [if_neg (by omega), if_neg h2]
      · rw [if_neg h1, if_neg (by omega)]
        rfl
theorem portOf_dec (n : Nat) (s : ByteArray) : portOf (decB n) s = if n ≤ 65535 then some (if (n : Int) = defaultOf s then -1 else (n : Int)) else none := by
  unfold portOf
  rw [show (decB n).data.toList = decL n from rfl, portR_dec]
  split
  · have hsz : (decB n).size ≠ 0 := by have := (decL_length n).1; show (decL n).length ≠ 0; omega
    simp only [Option.map_some, hsz, false_or]
  · rfl
theorem portOf_dec0 (n : Nat) (s : ByteArray) (h : n ≤ 65535) : portOf ((⟨#[48, 48]⟩ : ByteArray) ++ decB n) s = some (if (n : Int) = defaultOf s then -1 else (n : Int)) := by
  unfold portOf
  rw [append_data, show (decB n).data.toList = decL n from rfl, portR_append]
  have h0 : portR (⟨#[48, 48]⟩ : ByteArray).data.toList 0 = some 0 := by decide +kernel
  rw [h0]
  simp only [Option.bind_some, portR_dec, if_pos h, Option.map_some]
  have hsz : ((⟨#[48, 48]⟩ : ByteArray) ++ decB n).size ≠ 0 := by
    rw [← len_data, append_data, List.length_append]
    have : (⟨#[48, 48]⟩ : ByteArray).data.toList.length = 2 := rfl
    omega
  simp only [hsz, false_or]
theorem strOf_digit {d : Nat} (h : d < 10) : strOfNums [wrap64 (48 + (d : Int)) % 256] = ⟨#[UInt8.ofNat (48 + d)]⟩ := by
  have : wrap64 (48 + (d : Int)) % 256 = 48 + (d : Int) := by rw [wrap_in (by omega) (by omega)]; omega
  unfold strOfNums
  rw [this]
  simp only [List.map_cons, List.map_nil]
  rw [show (48 + (d : Int)).toNat = 48 + d by omega]
theorem number_is (n : Nat) (hn : n ≤ 1000000000) : Ev (fun k => gatepostlaw10_number.f k n) (decB n) := by
  induction n using Nat.strongRecOn with
  | _ n ih =>
    unfold decB decL
    split
    · rename_i h
      refine Ev.step (f := fun _ => some ⟨#[UInt8.ofNat (48 + n)]⟩) (fun k => ?_) (Ev.now _)
      simp only [gatepostlaw10_number.f]
      rw [if_pos (by omega), strOf_digit h]
    · rename_i h
      have hd : wrap64 (Int.tdiv (n : Int) 10) = ((n / 10 : Nat) : Int) := by rw [Int.tdiv_eq_ediv_of_nonneg (by omega), wrap_in (by omega) (by omega)]; omega
      have hm : Int.tmod (n : Int) 10 = ((n % 10 : Nat) : Int) := by rw [Int.tmod_eq_emod_of_nonneg (by omega)]; omega
      have hs := strOf_digit (d := n % 10) (by omega)
      refine Ev.step (f := fun k => (gatepostlaw10_number.f k ((n / 10 : Nat) : Int)).bind fun t => if t.size + (⟨#[UInt8.ofNat (48 + n % 10)]⟩ : ByteArray).size ≤ 9223372036854775807 then some (t ++ (⟨#[UInt8.ofNat (48 + n % 10)]⟩ : ByteArray)) else none) (fun k => ?_) (Ev.bind (ih (n / 10) (by omega) (by omega)) ?_)
      · simp only [gatepostlaw10_number.f]
        rw [if_neg (by omega), hd, hm]
        simp only [Option.bind_some, hs]
      · have hl := (decL_length (n / 10)).2
        have h1 : (decB (n / 10)).size = (decL (n / 10)).length := rfl
        have h2 : (⟨#[UInt8.ofNat (48 + n % 10)]⟩ : ByteArray).size = 1 := rfl
        rw [if_pos (by omega)]
        have he : decB (n / 10) ++ (⟨#[UInt8.ofNat (48 + n % 10)]⟩ : ByteArray) = ⟨(decL (n / 10) ++ [UInt8.ofNat (48 + n % 10)]).toArray⟩ := data_inj (by rw [append_data]; rfl)
        rw [he]
        exact Ev.now _

set_option maxHeartbeats 2000000 in
theorem numbers_calls (n : Nat) (s : ByteArray) (w : World) (hn : n ≤ 65535) :
    Calls Try.prog 6 #[.int .u16 n, .string s] w fun e w' => e = .returned (.bool true) ∧ Below w.heap.size w w' := by
  obtain ⟨k1, hk1⟩ := (number_is n (by omega)).rounds
  obtain ⟨k2, hk2⟩ := (number_is (65536 + n) (by omega)).rounds
  obtain ⟨m, hm1, hm2⟩ := default_ref s
  have hmd : m = defaultOf s := by rw [default_some] at hm1; exact (Option.some.inj hm1).symm
  obtain ⟨k3, hk3⟩ := hm2.rounds
  have hsz : (decB n).size ≤ 65536 := by have := (decL_length n).2; show (decL n).length ≤ _; omega
  have hsz2 : (decB (65536 + n)).size ≤ 140737488351232 := by have := (decL_length (65536 + n)).2; show (decL (65536 + n)).length ≤ _; omega
  have hsz3 : ((⟨#[48, 48]⟩ : ByteArray) ++ decB n).size ≤ 140737488351232 := by
    rw [← len_data, append_data, List.length_append, len_data]
    have : (⟨#[48, 48]⟩ : ByteArray).size = 2 := rfl
    have : (decB n).data.toList.length = (decB n).size := len_data _
    omega
  have p1 : portOf (decB n) s = some (if (n : Int) = defaultOf s then -1 else (n : Int)) := by rw [portOf_dec, if_pos hn]
  have p2 := portOf_dec0 n s hn
  have p3 : portOf (decB (65536 + n)) s = none := by rw [portOf_dec, if_neg (by omega)]
  have hk2' : gatepostlaw10_number.f k2 (65536 + (n : Int)) = some (decB (65536 + n)) := by rw [← hk2]; congr 1
  subst hmd
  generalize decB n = x at *
  generalize decB (65536 + n) = z at *
  have K1 := Lib.hid hk1
  have K2 := Lib.hid hk2'
  have K3 := Lib.hid hk3
  have P3 := Lib.hid p3
  clear hk1 hk2 hk2' hk3 hm1 hm2 p3
  by_cases h80 : (80 : Int) < (s.size : Int)
  · go_enter Try.func6, Try.ntmps6
    go_wp2_with (go_at_call 7; refine (gatepostlaw10_awake.calls true _ rfl).mono ?_; rintro e w1 ⟨rfl, hb1⟩)
    go_ret
    exact ⟨rfl, hb1⟩
  · obtain ⟨v, hpv1, hpv2, hv⟩ : ∃ v : Int, portOf x s = some v ∧ portOf ((⟨#[48, 48]⟩ : ByteArray) ++ x) s = some v ∧ (((n : Int) == defaultOf s) = true ∧ v = -1 ∨ ((n : Int) == defaultOf s) = false ∧ v = (n : Int)) := by
      refine ⟨_, p1, p2, ?_⟩
      by_cases hd : (n : Int) = defaultOf s
      · exact .inl ⟨by simpa using hd, if_pos hd⟩
      · exact .inr ⟨by simpa using hd, if_neg hd⟩
    clear p1 p2
    have P1 := Lib.hid hpv1
    have P2 := Lib.hid hpv2
    have HV := Lib.hid hv
    clear hpv1 hpv2 hv
    go_enter Try.func6, Try.ntmps6
    go_wp2_with fail
    refine (gatepostlaw10_awake.calls true _ rfl).mono ?_
    rintro e w1 ⟨rfl, hb1⟩
    have H1 := Lib.hid hb1
    clear hb1
    go_wp2_with fail
    refine (gatepostlaw10_number.calls k1 _ _ _ K1.out).mono ?_
    rintro e w2 ⟨rfl, hb2⟩
    have H2 := Lib.hid (below_step H1.out hb2)
    clear hb2
    go_wp2_with fail
    refine (port_ok _ _ _ _ (by omega) P1.out).mono ?_
    rintro e w3 ⟨rfl, hb3⟩
    have H3 := Lib.hid (below_step H2.out hb3)
    clear hb3
    go_wp2_with fail
    refine (port_ok _ _ _ _ (by omega) P2.out).mono ?_
    rintro e w4 ⟨rfl, hb4⟩
    have H4 := Lib.hid (below_step H3.out hb4)
    clear hb4
    go_wp2_with fail
    refine (gatepostlaw10_number.calls k2 _ _ _ K2.out).mono ?_
    rintro e w5 ⟨rfl, hb5⟩
    have H5 := Lib.hid (below_step H4.out hb5)
    clear hb5
    go_wp2_with fail
    refine (port_err _ _ _ hsz2 P3.out).mono ?_
    rintro e w6 ⟨t, y, rfl, hc, hb6⟩
    have H6 := Lib.hid (below_step H5.out hb6)
    clear hb6 hc
    go_wp2_with fail
    refine (gatepostref10_Default.calls k3 _ _ _ K3.out).mono ?_
    rintro e w7 ⟨rfl, hb7⟩
    have H7 := Lib.hid (below_step H6.out hb7.below)
    clear hb7
    rcases HV.out with ⟨hd, rfl⟩ | ⟨hd, rfl⟩
    · go_wp2_with fail
      go_ret
      exact ⟨rfl, H7.out⟩
    · go_wp2_with fail
      go_ret
      exact ⟨rfl, H7.out⟩
end Go.Proofs.Ytakbjmmelfcjeaa
