/- PunyBack, PunyOnce and PunyPlain, walked. -/
import Derived.Test.YtbeibfhnbnmocaaPunyRef
set_option linter.unusedVariables false
set_option linter.unusedSimpArgs false
set_option maxRecDepth 100000
namespace Go.Proofs.Ytbeibfhnbnmocaa
open Go.RowKit Go.Proofs.Ytbeibfhnbnmocaa.Plain Puny

theorem far_back (A : Option Addr) (c : Nat) (l : List Int) (w : World) (hl : 60 < l.length) :
    Calls Try.prog 3 #[.slice A l.length c] w fun e w' => e = .returned (.bool true) ∧ Below w.heap.size w w' := by
  have hl' : (60 : Int) < (l.length : Int) := by omega
  go_enter Try.func3, Try.ntmps3
  go_wp2_with fail
  refine (awake_calls w).mono ?_
  rintro e w1 ⟨rfl, hb⟩
  go_wp2_with fail
  go_ret
  exact ⟨rfl, hb⟩
set_option maxHeartbeats 4000000 in
theorem odd_back (A : Option Addr) (c : Nat) (l : List Int) (w : World) (hr : RowAt iC 1 w A l) (hc : l.length ≤ c) (hl : l.length ≤ 60) (hv : l.all Lib.validRune = false) :
    Calls Try.prog 3 #[.slice A l.length c] w fun e w' => e = .returned (.bool true) ∧ Below w.heap.size w w' := by
  have HR := Lib.hid hr
  have HVV := Lib.hid hv
  obtain ⟨n, hn⟩ : ∃ n, n = l.length := ⟨_, rfl⟩
  have HN := Lib.hid hn
  have HE := Lib.hid (fun w' (hb : Below w.heap.size w w') => encode_calls (A := A) (c := c) (l := l) w' (RowAt.keep HR.out hb) (by omega) hc)
  rw [← hn] at hl hc HE ⊢
  clear hr hn hv
  go_enter Try.func3, Try.ntmps3
  go_wp2_with fail
  refine (awake_calls w).mono ?_
  rintro e w1 ⟨rfl, hb⟩
  have HB1 := Lib.hid hb
  clear hb
  go_wp2_with fail
  refine (HE.out w1 HB1.out).mono ?_
  rintro e w2 ⟨he, hb⟩
  unfold EncPost at he
  rw [HVV.out, if_neg (by decide)] at he
  obtain ⟨v, rfl, hch⟩ := he
  obtain ⟨t, x, rfl⟩ := hch.iface
  have HB2 := Lib.hid (belowOn HB1.out HB1.out.size hb)
  clear hch hb HE HB1
  go_wp2_with fail
  go_loopg [6] n (fun k v6 w' => Hid (∃ p : Nat, v6 = .int .i64 p ∧ k = n - p ∧ p ≤ n ∧ (∀ j y, j < p → l[j]? = some y → Lib.validRune y = true) ∧ Below w.heap.size w w'))
  case atStart => exact ⟨0, rfl, rfl, Nat.zero_le _, fun j c hj => absurd hj (Nat.not_lt_zero _), HB2.out⟩
  case round =>
    obtain ⟨p, rfl, hk, hp, hall, hbe⟩ := hrel.out
    clear hrel HB2
    have HALL := Lib.hid hall
    have HNM := Lib.hid hk
    have HBE := Lib.hid hbe
    clear hall hk hbe
    by_cases hlt : p < n
    · obtain ⟨y, hy⟩ : ∃ y, l[p]? = some y := ⟨_, List.getElem?_eq_getElem (by rw [← HN.out]; exact hlt)⟩
      have hlt' : (p : Int) < (n : Int) := by omega
      obtain ⟨b, off, rfl, hbl, hcell⟩ := at32 (RowAt.keep HR.out HBE.out) hy
      have HY := Lib.hid hy
      clear hy
      have hsc := scalar_calls y wr
      cases hv : Lib.validRune y with
      | true =>
        rw [hv] at hsc
        have HSC := Lib.hid hsc
        clear hsc
        go_wp2_with fail
        refine HSC.out.mono ?_
        rintro e w3 ⟨rfl, hb⟩
        have HBE3 := Lib.hid (belowOn HBE.out HBE.out.size hb)
        clear hb
        go_wp2_with fail
        go_roundg (n - (p + 1))
        case measure => have := HNM.out; omega
        case rel =>
          refine ⟨p + 1, by first | rfl | simp, rfl, by omega, fun j d hj hd => ?_, HBE3.out⟩
          by_cases hjp : j < p
          · exact HALL.out j d hjp hd
          · have hjp' : j = p := by omega
            subst hjp'
            rw [HY.out] at hd
            simp only [Option.some.injEq] at hd
            subst hd
            exact hv
      | false =>
        rw [hv] at hsc
        have HSC := Lib.hid hsc
        clear hsc
        go_wp2_with fail
        refine HSC.out.mono ?_
        rintro e w3 ⟨rfl, hb⟩
        have HBE3 := Lib.hid (belowOn HBE.out HBE.out.size hb)
        clear hb
        go_wp2_with fail
        go_ret
        exact ⟨rfl, HBE3.out⟩
    · exfalso
      have : l.all Lib.validRune = true := by
        rw [List.all_eq_true]
        intro y hy
        obtain ⟨j, hj, rfl⟩ := List.mem_iff_getElem.1 hy
        exact HALL.out j _ (by rw [← HN.out] at hj; omega) (List.getElem?_eq_getElem hj)
      rw [HVV.out] at this
      cases this
set_option maxHeartbeats 4000000 in
theorem even_back (A : Option Addr) (c : Nat) (l : List Int) (w : World) (hr : RowAt iC 1 w A l) (hc : l.length ≤ c) (hl : l.length ≤ 60) (hv : l.all Lib.validRune = true) :
    Calls Try.prog 3 #[.slice A l.length c] w fun e w' => e = .returned (.bool true) ∧ Below w.heap.size w w' := by
  have HR := Lib.hid hr
  have HVV := Lib.hid hv
  obtain ⟨hcb, hs⟩ := cast_back hv
  have hde := dec_enc (l.map Int.toNat) (by rw [List.length_map]; omega) hs
  obtain ⟨T, hT⟩ : ∃ T, T = encL (l.map Int.toNat) := ⟨_, rfl⟩
  have HT := Lib.hid hT
  rw [← hT] at hde
  have HDE := Lib.hid hde
  have HCB := Lib.hid hcb
  obtain ⟨n, hn⟩ : ∃ n, n = l.length := ⟨_, rfl⟩
  have HN := Lib.hid hn
  have HE := Lib.hid (fun w' (hb : Below w.heap.size w w') => encode_calls (A := A) (c := c) (l := l) w' (RowAt.keep HR.out hb) (by omega) hc)
  have HSM := Lib.hid (fun w' (hb : Below w.heap.size w w') A' c' (h : RowAt iC 1 w' A' l) (hc' : l.length ≤ c') => same_calls w' h (RowAt.keep HR.out hb) (by omega) hc' hc)
  rw [← hn] at hl hc HE HSM ⊢
  clear hr hn hv hcb hs hde hT
  go_enter Try.func3, Try.ntmps3
  go_wp2_with fail
  refine (awake_calls w).mono ?_
  rintro e w1 ⟨rfl, hb⟩
  have HB1 := Lib.hid hb
  clear hb
  go_wp2_with fail
  refine (HE.out w1 HB1.out).mono ?_
  rintro e w2 ⟨he, hb⟩
  unfold EncPost at he
  rw [HVV.out, if_pos rfl, ← HT.out] at he
  obtain ⟨S, hS⟩ : ∃ S : ByteArray, S = ⟨T.toArray⟩ := ⟨_, rfl⟩
  rw [← hS] at he
  obtain ⟨rfl, hle⟩ := he
  have hSd : S.data.toList = T := by rw [hS]
  have hSz : S.size = T.length := by rw [← len_data, hSd]
  have HLE := Lib.hid (show S.size ≤ 21001 by omega)
  have hde := HDE.out
  rw [← hSd] at hde
  have HDS := Lib.hid hde
  clear hS hSd hSz hde HDE HT
  have HB2 := Lib.hid (belowOn HB1.out HB1.out.size hb)
  clear hb HE HB1 hle
  go_wp2_with fail
  go_loopg [6] n (fun k v6 w' => Hid (∃ p : Nat, v6 = .int .i64 p ∧ k = n - p ∧ p ≤ n ∧ Below w.heap.size w w'))
  case atStart => exact ⟨0, rfl, rfl, Nat.zero_le _, HB2.out⟩
  case round =>
    obtain ⟨p, rfl, hk, hp, hbe⟩ := hrel.out
    clear hrel HB2
    have HNM := Lib.hid hk
    have HBE := Lib.hid hbe
    clear hk hbe
    by_cases hlt : p < n
    · obtain ⟨y, hy⟩ : ∃ y, l[p]? = some y := ⟨_, List.getElem?_eq_getElem (by rw [← HN.out]; exact hlt)⟩
      have hlt' : (p : Int) < (n : Int) := by omega
      obtain ⟨b, off, rfl, hbl, hcell⟩ := at32 (RowAt.keep HR.out HBE.out) hy
      have hv : Lib.validRune y = true := List.all_eq_true.1 HVV.out y (List.mem_of_getElem? hy)
      clear hy
      have hsc := scalar_calls y wr
      rw [hv] at hsc
      have HSC := Lib.hid hsc
      clear hsc hv
      go_wp2_with fail
      refine HSC.out.mono ?_
      rintro e w3 ⟨rfl, hb⟩
      have HBE3 := Lib.hid (belowOn HBE.out HBE.out.size hb)
      clear hb
      go_wp2_with fail
      go_roundg (n - (p + 1))
      case measure => have := HNM.out; omega
      case rel => exact ⟨p + 1, by first | rfl | simp, rfl, by omega, HBE3.out⟩
    · have hlt' : ¬ (p : Int) < (n : Int) := by omega
      have HD := Lib.hid (decode_calls S (by have := HLE.out; omega) wr)
      go_wp2_with fail
      refine HD.out.mono ?_
      rintro e w3 ⟨he, hb⟩
      rw [HDS.out.1] at he
      obtain ⟨v, rfl, hov⟩ := he
      rw [← HCB.out] at hov
      obtain ⟨A', c', rfl, hrow, hlc', -⟩ := hov.row
      have HRW := Lib.hid (RowI.toAt hrow)
      have HB3 := Lib.hid (belowOn HBE.out HBE.out.size hb)
      rw [← HN.out] at hlc' ⊢
      clear hb hov hrow HD
      go_wp2_with fail
      go_loopg [9] S.size (fun k v9 w' => Hid (∃ q : Nat, v9 = .int .i64 q ∧ k = S.size - q ∧ q ≤ S.size ∧ w' = w3))
      case atStart => exact ⟨0, rfl, rfl, Nat.zero_le _, rfl⟩
      case round =>
        obtain ⟨q, rfl, hk, hq, rfl⟩ := hrel.out
        clear hrel
        have HQ := Lib.hid hk
        have hs21 := HLE.out
        clear hk
        by_cases hlq : q < S.size
        · obtain ⟨x, hx⟩ := byte_some hlq
          have hlow := HDS.out.2 x (List.mem_of_getElem? hx)
          have hl1 : ¬ (128 : Int) ≤ (x.toNat : Int) := by
            rw [UInt8.lt_iff_toNat_lt] at hlow
            have : (128 : UInt8).toNat = 128 := rfl
            omega
          have hlq' : (q : Int) < (S.size : Int) := by omega
          have hsx : S[q]'hlq = x := by
            have h2 : S.data[q]? = some x := by simpa using hx
            exact (Array.getElem?_eq_some_iff.1 h2).2
          clear hlow hx
          go_wp2_with fail
          go_roundg (S.size - (q + 1))
          case measure => have := HQ.out; omega
          case rel => exact ⟨q + 1, by first | rfl | simp, rfl, by omega, rfl⟩
        · have hlq' : ¬ (q : Int) < (S.size : Int) := by omega
          go_wp2_with fail
          refine (HSM.out _ HB3.out A' c' HRW.out hlc').mono ?_
          rintro e w4 ⟨rfl, hb⟩
          have HB4 := Lib.hid (belowOn HB3.out HB3.out.size hb)
          clear hb
          go_wp2_with fail
          go_ret
          exact ⟨rfl, HB4.out⟩
theorem back_calls (A : Option Addr) (c : Nat) (l : List Int) (w : World) (hr : RowAt iC 1 w A l) (hc : l.length ≤ c) :
    Calls Try.prog 3 #[.slice A l.length c] w fun e w' => e = .returned (.bool true) ∧ Below w.heap.size w w' := by
  by_cases hl : l.length ≤ 60
  · cases hv : l.all Lib.validRune with
    | true => exact even_back A c l w hr hc hl hv
    | false => exact odd_back A c l w hr hc hl hv
  · exact far_back A c l w (by omega)
end Go.Proofs.Ytbeibfhnbnmocaa
