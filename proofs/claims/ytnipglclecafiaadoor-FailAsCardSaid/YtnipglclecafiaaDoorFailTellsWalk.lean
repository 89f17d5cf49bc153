/- FailTells and FailIs, walked. -/
import Derived.Test.YtnipglclecafiaaDoorFailAwake
set_option linter.unusedVariables false
set_option linter.unusedSimpArgs false
namespace Go.Proofs.YtnipglclecafiaaDoor
open Go.RowKit

theorem chain_fail {w : World} {L : List ByteArray} {v : Value} {c : Int} (h : Chain w L v c) (hne : L ≠ []) : ∃ g, v = .iface 40 (.pointer (some ⟨g, 0, none⟩)) := by
  cases h with
  | num c => exact absurd rfl hne
  | fail g _ _ v2 _ hg hv => exact ⟨g, rfl⟩
theorem chain_num {w : World} {L : List ByteArray} {v : Value} {c : Int} (h : Chain w L v c) (he : L = []) : v = .iface 25 (.int .i64 c) := by
  subst he
  cases h
  rfl
/-- A Fail's text. -/
theorem error_any {w : World} {L : List ByteArray} {g : Nat} {c : Int} (h : Chain w L (.iface 40 (.pointer (some ⟨g, 0, none⟩))) c) (h1 : 1 ≤ c) (h10 : c ≤ 10) (hs : Short L) :
    Calls Tryd.prog 22 #[.pointer (some ⟨g, 0, none⟩)] w fun e w' => e = .returned (.string (errText L (word c))) ∧ Below w.heap.size w w' := by
  cases h with
  | fail _ s l v2 _ hg hv => exact error_chain c h1 h10 l s v2 w g hv hg hs
theorem number_c (n c : Int) (w : World) (h0 : 0 ≤ n) (h1 : n < 256) (hc : 1 + n % 10 = c) : Calls Tryd.prog 10 #[.int .u8 n] w fun e w' => e = .returned (.int .i64 c) ∧ w = w' := by
  subst hc
  exact number_calls n w h0 h1
theorem few_short {calls L : List ByteArray} (h : fewS calls = true) (hL : calls.reverse = L) : Short L ∧ (∀ s ∈ calls, s.size ≤ 100) := by
  simp only [fewS, Bool.and_eq_true, decide_eq_true_eq, List.all_eq_true] at h
  refine ⟨⟨by rw [← hL, List.length_reverse]; omega, fun s hs => ?_⟩, fun s hs => by have := h.2 s hs; omega⟩
  rw [← hL, List.mem_reverse] at hs
  have := h.2 s hs
  omega

set_option maxHeartbeats 2000000 in
theorem tells_calls (A : Option Addr) (cap : Nat) (calls : List ByteArray) (n : Int) (hn0 : 0 ≤ n) (hn1 : n < 256) (w : World) (hG : ErrType w) (h : RowAt sC 1 w A calls) (hlc : calls.length ≤ cap) (hcm : cap ≤ maxLen) :
    Calls Tryd.prog 3 #[.slice A calls.length cap, .int .u8 n] w fun e w' => e = .returned (.bool true) ∧ Below w.heap.size w w' := by
  have hmF := fun v w => methodErrF (213 - 1) v w
  have hmE := fun v w => methodErrE (213 - 1) v w
  simp only [Nat.reduceSub, Nat.reduceAdd] at hmF hmE
  have F1 := Lib.hid (fun w' (hb : Below w.heap.size w w') => few_strs A cap calls w' (h.keep hb) hlc hcm)
  have HG := Lib.hid hG
  have H := Lib.hid h
  clear h hG
  obtain ⟨c, hc⟩ : ∃ c, 1 + n % 10 = c := ⟨_, rfl⟩
  have hc1 : 1 ≤ c := by omega
  have hc10 : c ≤ 10 := by omega
  cases hf : fewS calls
  · rw [hf] at F1
    go_enter Tryd.func3, Tryd.ntmps3
    go_wp2_with (first
      | (go_at_call 8; refine (awake_calls _ HG.out).mono ?_; rintro e w1 ⟨rfl, hb⟩; have HB1 := Lib.hid hb; clear hb)
      | (go_at_call 9; refine (F1.out _ HB1.out).mono ?_; rintro e w' ⟨rfl, rfl⟩))
    go_ret
    exact ⟨rfl, HB1.out⟩
  · rw [hf] at F1
    obtain ⟨L, hL⟩ : ∃ L, calls.reverse = L := ⟨_, rfl⟩
    obtain ⟨hsh, hsz⟩ := few_short hf hL
    have hl20 := fewS_len hf
    have hLl : L.length ≤ 1000 := by rw [← hL, List.length_reverse]; omega
    obtain ⟨T, hT⟩ : ∃ T, textOf calls (word c) = T := ⟨_, rfl⟩
    have hT2 : errText L (word c) = T := by rw [← hL, errText_reverse]; exact hT
    have HL := Lib.hid hL
    have HSH := Lib.hid hsh
    have HSZ := Lib.hid hsz
    have HT := Lib.hid hT
    have HT2 := Lib.hid hT2
    have hwz : (word c).size ≤ 100 := by have := word_size c; omega
    clear hf hL hsh hsz hT hT2
    by_cases hne : L = []
    · have HNE := Lib.hid hne
      clear hne
      go_enter Tryd.func3, Tryd.ntmps3
      go_wp2_with (first
        | (go_at_call 8; refine (awake_calls _ HG.out).mono ?_; rintro e w1 ⟨rfl, hb⟩; have HB1 := Lib.hid hb; clear hb)
        | (go_at_call 9; refine (F1.out _ HB1.out).mono ?_; rintro e w' ⟨rfl, rfl⟩)
        | (go_at_call 10; refine (number_c n c _ hn0 hn1 hc).mono ?_; rintro e w' ⟨rfl, rfl⟩)
        | (go_at_call 11; refine (all_calls A cap calls c _ (H.out.keep HB1.out) hlc hcm (by omega) L HL.out).mono ?_; rintro e w2 ⟨⟨v, rfl, hch⟩, hb⟩; obtain rfl := chain_num hch HNE.out; have HB2 := Lib.hid (belowOn HB1.out HB1.out.size hb); have HC2 := Lib.hid hch; clear hb hch)
        | (go_at_call 13; have hx := HB3; refine (error_num c _ hc1 hc10).mono ?_; rintro e w4 ⟨rfl, hb⟩; have HB4 := Lib.hid (belowOn HB3.out HB3.out.size hb); have HC4 := Lib.hid (HC3.out.keep hb); clear hb hx)
        | (go_at_call 13; refine (error_num c _ hc1 hc10).mono ?_; rw [show word c = T by rw [← HT2.out, HNE.out]; rfl]; rintro e w3 ⟨rfl, hb⟩; have HB3 := Lib.hid (belowOn HB2.out HB2.out.size hb); have HC3 := Lib.hid (HC2.out.keep hb); clear hb)
        | (go_at_call 12; refine (text_calls A cap calls (word c) _ (H.out.keep HB4.out) hlc hcm HSZ.out (by omega) hwz).mono ?_; rw [HT.out]; rintro e w' ⟨rfl, rfl⟩)
        | (go_at_call 14; refine (code_chain _ _ c _ HC4.out (HG.out.keep HB4.out)).mono ?_; rintro e w5 ⟨rfl, hb⟩; have HB5 := Lib.hid (belowOn HB4.out HB4.out.size hb); have HC5 := Lib.hid (HC4.out.keep hb); clear hb)
        | (go_at_call 16; refine (calls_of HC5.out (HG.out.keep HB5.out) hLl).mono ?_; rintro e w6 ⟨⟨A6, cap6, rfl, hr6, hl6, hm6⟩, hb⟩; have HB6 := Lib.hid (belowOn HB5.out HB5.out.size hb); have HR6 := Lib.hid hr6; clear hb hr6)
        | (go_at_call 17; refine (turned_calls A cap calls _ (H.out.keep HB6.out) hlc hcm (by omega)).mono ?_; rw [HL.out]; rintro e w7 ⟨⟨u7, rfl, ho7⟩, hb⟩; obtain ⟨A7, cap7, rfl, hr7, hl7, hm7, _⟩ := ho7.row sC_len; have HB7 := Lib.hid (belowOn HB6.out HB6.out.size hb); have HR7 := Lib.hid hr7; have HR67 := Lib.hid (HR6.out.keep hb); clear hb hr7 ho7)
        | (go_at_call 15; refine (same_calls A6 A7 cap6 cap7 L L _ HR67.out HR7.out hl6 hm6 hl7 hm7).mono ?_; rw [decide_eq_true (rfl : L = L)]; rintro e w8 ⟨rfl, hb⟩; have HB8 := Lib.hid (belowOn HB7.out HB7.out.size hb); clear hb))
      go_ret
      exact ⟨by simp, HB8.out⟩
    · have HNE := Lib.hid hne
      clear hne
      go_enter Tryd.func3, Tryd.ntmps3
      go_wp2_with (first
        | (go_at_call 8; refine (awake_calls _ HG.out).mono ?_; rintro e w1 ⟨rfl, hb⟩; have HB1 := Lib.hid hb; clear hb)
        | (go_at_call 9; refine (F1.out _ HB1.out).mono ?_; rintro e w' ⟨rfl, rfl⟩)
        | (go_at_call 10; refine (number_c n c _ hn0 hn1 hc).mono ?_; rintro e w' ⟨rfl, rfl⟩)
        | (go_at_call 11; refine (all_calls A cap calls c _ (H.out.keep HB1.out) hlc hcm (by omega) L HL.out).mono ?_; rintro e w2 ⟨⟨v, rfl, hch⟩, hb⟩; obtain ⟨g, rfl⟩ := chain_fail hch HNE.out; have HB2 := Lib.hid (belowOn HB1.out HB1.out.size hb); have HC2 := Lib.hid hch; clear hb hch)
        | (go_at_call 22; refine (error_any HC2.out hc1 hc10 HSH.out).mono ?_; rw [HT2.out]; rintro e w3 ⟨rfl, hb⟩; have HB3 := Lib.hid (belowOn HB2.out HB2.out.size hb); have HC3 := Lib.hid (HC2.out.keep hb); clear hb)
        | (go_at_call 13; refine (error_num c _ hc1 hc10).mono ?_; rintro e w4 ⟨rfl, hb⟩; have HB4 := Lib.hid (belowOn HB3.out HB3.out.size hb); have HC4 := Lib.hid (HC3.out.keep hb); clear hb)
        | (go_at_call 12; refine (text_calls A cap calls (word c) _ (H.out.keep HB4.out) hlc hcm HSZ.out (by omega) hwz).mono ?_; rw [HT.out]; rintro e w' ⟨rfl, rfl⟩)
        | (go_at_call 14; refine (code_chain _ _ c _ HC4.out (HG.out.keep HB4.out)).mono ?_; rintro e w5 ⟨rfl, hb⟩; have HB5 := Lib.hid (belowOn HB4.out HB4.out.size hb); have HC5 := Lib.hid (HC4.out.keep hb); clear hb)
        | (go_at_call 16; refine (calls_of HC5.out (HG.out.keep HB5.out) hLl).mono ?_; rintro e w6 ⟨⟨A6, cap6, rfl, hr6, hl6, hm6⟩, hb⟩; have HB6 := Lib.hid (belowOn HB5.out HB5.out.size hb); have HR6 := Lib.hid hr6; clear hb hr6)
        | (go_at_call 17; refine (turned_calls A cap calls _ (H.out.keep HB6.out) hlc hcm (by omega)).mono ?_; rw [HL.out]; rintro e w7 ⟨⟨u7, rfl, ho7⟩, hb⟩; obtain ⟨A7, cap7, rfl, hr7, hl7, hm7, _⟩ := ho7.row sC_len; have HB7 := Lib.hid (belowOn HB6.out HB6.out.size hb); have HR7 := Lib.hid hr7; have HR67 := Lib.hid (HR6.out.keep hb); clear hb hr7 ho7)
        | (go_at_call 15; refine (same_calls A6 A7 cap6 cap7 L L _ HR67.out HR7.out hl6 hm6 hl7 hm7).mono ?_; rw [decide_eq_true (rfl : L = L)]; rintro e w8 ⟨rfl, hb⟩; have HB8 := Lib.hid (belowOn HB7.out HB7.out.size hb); clear hb))
      go_ret
      exact ⟨by simp, HB8.out⟩

set_option maxHeartbeats 2000000 in
theorem is_calls (A : Option Addr) (cap : Nat) (calls : List ByteArray) (n : Int) (hn0 : 0 ≤ n) (hn1 : n < 256) (m : Int) (hm0 : 0 ≤ m) (hm1 : m < 256) (w : World) (hG : ErrType w) (h : RowAt sC 1 w A calls) (hlc : calls.length ≤ cap) (hcm : cap ≤ maxLen) :
    Calls Tryd.prog 4 #[.slice A calls.length cap, .int .u8 n, .int .u8 m] w fun e w' => e = .returned (.bool true) ∧ Below w.heap.size w w' := by
  have hmF := fun v w => methodErrF (213 - 1) v w
  have hmE := fun v w => methodErrE (213 - 1) v w
  simp only [Nat.reduceSub, Nat.reduceAdd] at hmF hmE
  have F1 := Lib.hid (fun w' (hb : Below w.heap.size w w') => few_strs A cap calls w' (h.keep hb) hlc hcm)
  have HG := Lib.hid hG
  have H := Lib.hid h
  clear h hG
  obtain ⟨c, hc⟩ : ∃ c, 1 + n % 10 = c := ⟨_, rfl⟩
  have hc1 : 1 ≤ c := by omega
  have hc10 : c ≤ 10 := by omega
  obtain ⟨d, hd⟩ : ∃ d, 1 + m % 10 = d := ⟨_, rfl⟩
  cases hf : fewS calls
  · rw [hf] at F1
    go_enter Tryd.func4, Tryd.ntmps4
    go_wp2_with (first
      | (go_at_call 8; refine (awake_calls _ HG.out).mono ?_; rintro e w1 ⟨rfl, hb⟩; have HB1 := Lib.hid hb; clear hb)
      | (go_at_call 9; refine (F1.out _ HB1.out).mono ?_; rintro e w' ⟨rfl, rfl⟩))
    go_ret
    exact ⟨rfl, HB1.out⟩
  · rw [hf] at F1
    obtain ⟨L, hL⟩ : ∃ L, calls.reverse = L := ⟨_, rfl⟩
    obtain ⟨hsh, hsz⟩ := few_short hf hL
    have hl20 := fewS_len hf
    have hLl : L.length ≤ 1000 := by rw [← hL, List.length_reverse]; omega
    obtain ⟨T, hT⟩ : ∃ T, textOf calls (word c) = T := ⟨_, rfl⟩
    have hT2 : errText L (word c) = T := by rw [← hL, errText_reverse]; exact hT
    have HL := Lib.hid hL
    have HSH := Lib.hid hsh
    have HSZ := Lib.hid hsz
    have HT := Lib.hid hT
    have HT2 := Lib.hid hT2
    have hwz : (word c).size ≤ 100 := by have := word_size c; omega
    clear hf hL hsh hsz hT hT2
    by_cases hne : L = []
    · have HNE := Lib.hid hne
      clear hne
      go_enter Tryd.func4, Tryd.ntmps4
      go_wp2_with (first
        | (go_at_call 8; refine (awake_calls _ HG.out).mono ?_; rintro e w1 ⟨rfl, hb⟩; have HB1 := Lib.hid hb; clear hb)
        | (go_at_call 9; refine (F1.out _ HB1.out).mono ?_; rintro e w' ⟨rfl, rfl⟩)
        | (go_at_call_of 10 (Value.int .u8 n); refine (number_c n c _ hn0 hn1 hc).mono ?_; rintro e w' ⟨rfl, rfl⟩)
        | (go_at_call_of 10 (Value.int .u8 m); refine (number_c m d _ hm0 hm1 hd).mono ?_; rintro e w' ⟨rfl, rfl⟩)
        | (go_at_call 11; refine (all_calls A cap calls c _ (H.out.keep HB1.out) hlc hcm (by omega) L HL.out).mono ?_; rintro e w2 ⟨⟨v, rfl, hch⟩, hb⟩; obtain rfl := chain_num hch HNE.out; have HB2 := Lib.hid (belowOn HB1.out HB1.out.size hb); have HC2 := Lib.hid hch; clear hb hch)
        | (go_at_call_of 18 (Value.int .i64 d); refine (is_chain _ _ c d _ HC2.out).mono ?_; rintro e w' ⟨rfl, rfl⟩)
        | (go_at_call 18; refine (is_chain _ _ c c _ HC2.out).mono ?_; rw [show (c == c) = true by simp]; rintro e w' ⟨rfl, rfl⟩))
      go_ret
      exact ⟨by simp, HB2.out⟩
    · have HNE := Lib.hid hne
      clear hne
      go_enter Tryd.func4, Tryd.ntmps4
      go_wp2_with (first
        | (go_at_call 8; refine (awake_calls _ HG.out).mono ?_; rintro e w1 ⟨rfl, hb⟩; have HB1 := Lib.hid hb; clear hb)
        | (go_at_call 9; refine (F1.out _ HB1.out).mono ?_; rintro e w' ⟨rfl, rfl⟩)
        | (go_at_call_of 10 (Value.int .u8 n); refine (number_c n c _ hn0 hn1 hc).mono ?_; rintro e w' ⟨rfl, rfl⟩)
        | (go_at_call_of 10 (Value.int .u8 m); refine (number_c m d _ hm0 hm1 hd).mono ?_; rintro e w' ⟨rfl, rfl⟩)
        | (go_at_call 11; refine (all_calls A cap calls c _ (H.out.keep HB1.out) hlc hcm (by omega) L HL.out).mono ?_; rintro e w2 ⟨⟨v, rfl, hch⟩, hb⟩; obtain ⟨g, rfl⟩ := chain_fail hch HNE.out; have HB2 := Lib.hid (belowOn HB1.out HB1.out.size hb); have HC2 := Lib.hid hch; clear hb hch)
        | (go_at_call_of 18 (Value.int .i64 d); refine (is_chain _ _ c d _ HC2.out).mono ?_; rintro e w' ⟨rfl, rfl⟩)
        | (go_at_call 18; refine (is_chain _ _ c c _ HC2.out).mono ?_; rw [show (c == c) = true by simp]; rintro e w' ⟨rfl, rfl⟩))
      go_ret
      exact ⟨by simp, HB2.out⟩
end Go.Proofs.YtnipglclecafiaaDoor
