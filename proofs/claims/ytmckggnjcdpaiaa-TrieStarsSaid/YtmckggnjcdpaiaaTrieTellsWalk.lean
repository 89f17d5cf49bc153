/- TrieTells and TrieFew, walked. -/
import Derived.Test.YtmckggnjcdpaiaaTrieAwake
set_option linter.unusedSimpArgs false
set_option linter.unusedVariables false
namespace Go.Proofs.Ytmckggnjcdpaiaa
open Go.RowKit
attribute [local go_sem] max_i64 min_i64

theorem fewS_len {l : List ByteArray} (h : fewS l = true) : l.length ≤ 20 := by
  simp only [fewS, Bool.and_eq_true, decide_eq_true_eq] at h
  exact h.1
theorem fewR_len {l : List RulV} (h : fewR l = true) : l.length ≤ 20 := by
  simp only [fewR, Bool.and_eq_true, decide_eq_true_eq] at h
  exact h.1
set_option maxHeartbeats 1000000 in
theorem tells_calls (A : Option Addr) (c : Nat) (l : List RulV) (A2 : Option Addr) (c2 : Nat) (ls : List ByteArray) (ver : Int) (w : World) (h : RowAt RulV.cells 2 w A l) (hok : ∀ x ∈ l, x.ok w) (h2 : RowAt strC 1 w A2 ls) (hlc : l.length ≤ c) (hcm : c ≤ maxLen) (hlc2 : ls.length ≤ c2) (hcm2 : c2 ≤ maxLen) :
    Calls Try.prog 3 #[.slice A l.length c, .slice A2 ls.length c2, .int .i64 ver] w fun e w' => e = .returned (.bool true) ∧ Below w.heap.size w w' := by
  have F1 := Lib.hid (fun w' (hb : Below w.heap.size w w') => few_rules A c l w' (h.keep hb) (fun x hx => (hok x hx).keep hb) hlc hcm)
  have F2 := Lib.hid (fun w' (hb : Below w.heap.size w w') => few_strs A2 c2 ls w' (h2.keep hb) hlc2 hcm2)
  have HN := Lib.hid (fun w' (hb : Below w.heap.size w w') => new_calls A c l w' ver (h.keep hb) (fun x hx => (hok x hx).keep hb) hlc hcm)
  have HR := Lib.hid (fun w' (hb : Below w.heap.size w w') => refSuffix_calls A c l A2 c2 ls w' (h.keep hb) (fun x hx => (hok x hx).keep hb) (h2.keep hb) hlc hcm hlc2 hcm2)
  have H2 := Lib.hid h2
  clear h hok h2
  cases hf1 : fewR l
  · rw [hf1] at F1
    go_enter Try.func3, Try.ntmps3
    go_wp2_with (first
      | (go_at_call 8; refine (awake_calls _).mono ?_; rintro e w1 ⟨rfl, hb1⟩; have HB1 := Lib.hid hb1; clear hb1)
      | (go_at_call 9; refine (F1.out _ HB1.out).mono ?_; rintro e w' ⟨rfl, rfl⟩))
    go_ret
    exact ⟨rfl, HB1.out⟩
  · rw [hf1] at F1
    cases hf2 : fewS ls
    · rw [hf2] at F2
      go_enter Try.func3, Try.ntmps3
      go_wp2_with (first
        | (go_at_call 8; refine (awake_calls _).mono ?_; rintro e w1 ⟨rfl, hb1⟩; have HB1 := Lib.hid hb1; clear hb1)
        | (go_at_call 9; refine (F1.out _ HB1.out).mono ?_; rintro e w' ⟨rfl, rfl⟩)
        | (go_at_call 10; refine (F2.out _ HB1.out).mono ?_; rintro e w' ⟨rfl, rfl⟩))
      go_ret
      exact ⟨rfl, HB1.out⟩
    · rw [hf2] at F2
      have hl20 := fewS_len hf2
      clear hf1 hf2
      go_enter Try.func3, Try.ntmps3
      go_wp2_with (first
        | (go_at_call 8; refine (awake_calls _).mono ?_; rintro e w1 ⟨rfl, hb1⟩; have HB1 := Lib.hid hb1; clear hb1)
        | (go_at_call 9; refine (F1.out _ HB1.out).mono ?_; rintro e w' ⟨rfl, rfl⟩)
        | (go_at_call 10; refine (F2.out _ HB1.out).mono ?_; rintro e w' ⟨rfl, rfl⟩)
        | (go_at_call 11; refine (HN.out _ HB1.out).mono ?_; rintro e w2 ⟨⟨t, a, rfl, ht⟩, hb2⟩; have HT := Lib.hid ht; have HB2 := Lib.hid (belowOn HB1.out HB1.out.size hb2); clear ht hb2)
        | (go_at_call_of 12 (Value.pointer (some ⟨t, 0, none⟩)); refine (suffix_calls HT.out A2 c2 ls (H2.out.keep HB2.out) hlc2 hcm2 (by omega)).mono ?_; rintro e w3 ⟨rfl, hb3⟩; have HT3 := Lib.hid (HT.out.keep hb3); have HB3 := Lib.hid (belowOn HB2.out HB2.out.size hb3); clear hb3)
        | (go_at_call 13; refine (HR.out _ HB3.out).mono ?_; rintro e w4 ⟨rfl, hb4⟩; have HT4 := Lib.hid (HT3.out.keep hb4); have HB4 := Lib.hid (belowOn HB3.out HB3.out.size hb4); clear hb4)
        | (go_at_call_of 14 (Value.pointer (some ⟨t, 0, none⟩)); refine (version_calls HT4.out).mono ?_; rintro e w' ⟨rfl, rfl⟩)
        | (go_at_call_of 14 (Value.pointer none); refine (version_nil _).mono ?_; rintro e w' ⟨rfl, rfl⟩)
        | (go_at_call_of 12 (Value.pointer none); refine (suffix_nil _ _ _ _).mono ?_; rintro e w5 ⟨rfl, hb5⟩; have HB5 := Lib.hid (belowOn HB4.out HB4.out.size hb5); clear hb5))
      go_ret
      exact ⟨rfl, HB5.out⟩

def small (l : List RulV) : Bool := l.any fun x => decide (x.r.labels.length < 2) && (x.r.except || decide (x.r.labels.length = 0))
theorem few_no {l : List RulV} (h : ∀ x ∈ l, ¬ (x.r.labels.length < 2 ∧ (x.r.except = true ∨ x.r.labels.length = 0))) (ls : List ByteArray) : (0 < suffixR (l.map (·.r)) ls) ↔ 0 < ls.length :=
  suffix_pos _ _ fun r hr => by
    obtain ⟨x, hx, rfl⟩ := List.mem_map.1 hr
    exact h x hx
set_option maxHeartbeats 1000000 in
theorem few_calls (A : Option Addr) (c : Nat) (l : List RulV) (A2 : Option Addr) (c2 : Nat) (ls : List ByteArray) (w : World) (h : RowAt RulV.cells 2 w A l) (hok : ∀ x ∈ l, x.ok w) (h2 : RowAt strC 1 w A2 ls) (hlc : l.length ≤ c) (hcm : c ≤ maxLen) (hlc2 : ls.length ≤ c2) (hcm2 : c2 ≤ maxLen) :
    Calls Try.prog 4 #[.slice A l.length c, .slice A2 ls.length c2] w fun e w' => e = .returned (.bool true) ∧ Below w.heap.size w w' := by
  have F1 := Lib.hid (fun w' (hb : Below w.heap.size w w') => few_rules A c l w' (h.keep hb) (fun x hx => (hok x hx).keep hb) hlc hcm)
  have F2 := Lib.hid (fun w' (hb : Below w.heap.size w w') => few_strs A2 c2 ls w' (h2.keep hb) hlc2 hcm2)
  have HN := Lib.hid (fun w' (hb : Below w.heap.size w w') => new_calls A c l w' 0 (h.keep hb) (fun x hx => (hok x hx).keep hb) hlc hcm)
  have HROW := Lib.hid h
  have H2 := Lib.hid h2
  clear h hok h2
  cases hf1 : fewR l
  · rw [hf1] at F1
    go_enter Try.func4, Try.ntmps4
    go_wp2_with (first
      | (go_at_call 8; refine (awake_calls _).mono ?_; rintro e w1 ⟨rfl, hb1⟩; have HB1 := Lib.hid hb1; clear hb1)
      | (go_at_call 9; refine (F1.out _ HB1.out).mono ?_; rintro e w' ⟨rfl, rfl⟩))
    go_ret
    exact ⟨rfl, HB1.out⟩
  · rw [hf1] at F1
    cases hf2 : fewS ls
    · rw [hf2] at F2
      go_enter Try.func4, Try.ntmps4
      go_wp2_with (first
        | (go_at_call 8; refine (awake_calls _).mono ?_; rintro e w1 ⟨rfl, hb1⟩; have HB1 := Lib.hid hb1; clear hb1)
        | (go_at_call 9; refine (F1.out _ HB1.out).mono ?_; rintro e w' ⟨rfl, rfl⟩)
        | (go_at_call 10; refine (F2.out _ HB1.out).mono ?_; rintro e w' ⟨rfl, rfl⟩))
      go_ret
      exact ⟨rfl, HB1.out⟩
    · rw [hf2] at F2
      have hl20 := fewS_len hf2
      clear hf1 hf2
      have hle := suffix_le (l.map (·.r)) ls
      obtain ⟨n, hn⟩ : ∃ n, n = suffixR (l.map (·.r)) ls := ⟨_, rfl⟩
      have HNN := Lib.hid hn
      rw [← hn] at hle
      clear hn
      have hle0 := hle.1
      have hle1 := hle.2
      clear hle
      go_enter Try.func4, Try.ntmps4
      go_wp2_with (first
        | (go_at_call 8; refine (awake_calls _).mono ?_; rintro e w1 ⟨rfl, hb1⟩; have HB1 := Lib.hid hb1; clear hb1)
        | (go_at_call 9; refine (F1.out _ HB1.out).mono ?_; rintro e w' ⟨rfl, rfl⟩)
        | (go_at_call 10; refine (F2.out _ HB1.out).mono ?_; rintro e w' ⟨rfl, rfl⟩)
        | (go_at_call 11; refine (HN.out _ HB1.out).mono ?_; rintro e w2 ⟨⟨t, a, rfl, ht⟩, hb2⟩; have HT := Lib.hid ht; have HB2 := Lib.hid (belowOn HB1.out HB1.out.size hb2); clear ht hb2)
        | (go_at_call 12; refine (suffix_calls HT.out A2 c2 ls (H2.out.keep HB2.out) hlc2 hcm2 (by omega)).mono ?_; rw [← HNN.out]; rintro e w3 ⟨rfl, hb3⟩; have HB3 := Lib.hid (belowOn HB2.out HB2.out.size hb3); clear hb3))
      go_loopg [7] l.length (fun k v7 w' => Hid (∃ (i : Nat), v7 = .int .i64 i ∧ i ≤ l.length ∧ k = l.length - i ∧ (∀ x ∈ l.take i, ¬ (x.r.labels.length < 2 ∧ (x.r.except = true ∨ x.r.labels.length = 0))) ∧ w' = w3))
      case atStart => exact ⟨0, rfl, Nat.zero_le _, rfl, by simp, rfl⟩
      case round =>
        obtain ⟨i, rfl, hi, hk, hall, rfl⟩ := hrel.out
        clear hrel
        have HK := Lib.hid hk
        have HALL := Lib.hid hall
        clear hk hall
        by_cases hlt : i < l.length
        · obtain ⟨x, hx⟩ : ∃ x, l[i]? = some x := ⟨l[i]'hlt, List.getElem?_eq_getElem hlt⟩
          obtain ⟨b, off, rfl, c0, c1⟩ := rul_at (HROW.out.keep HB3.out) hx
          have HX := Lib.hid hx
          clear hx
          have hge : (n ≥ 0) := hle0
          by_cases h2' : (x.r.labels.length : Int) < 2
          · by_cases hex : x.r.except = true
            · rw [hex] at c1
              clear hex
              go_wp2
              go_ret
              exact ⟨rfl, HB3.out⟩
            · have hex' : x.r.except = false := by simpa using hex
              rw [hex'] at c1
              have HEX := Lib.hid hex'
              clear hex hex'
              by_cases h0 : (x.r.labels.length : Int) = 0
              · go_wp2
                go_ret
                exact ⟨rfl, HB3.out⟩
              · go_wp2
                go_roundg (l.length - (i + 1))
                case measure => have := HK.out; omega
                case rel => exact ⟨i + 1, (by first | exact wrap_up _ _ _ hlt hlc hcm | simp), by omega, rfl, take_all HALL.out HX.out (by rw [HEX.out]; simp; intro _ e; apply h0; simp [e]), rfl⟩
          · go_wp2
            go_roundg (l.length - (i + 1))
            case measure => have := HK.out; omega
            case rel => exact ⟨i + 1, (by first | exact wrap_up _ _ _ hlt hlc hcm | simp), by omega, rfl, take_all HALL.out HX.out (by omega), rfl⟩
        · have hpos := few_no (l := l) (by have := HALL.out; rwa [List.take_of_length_le (by omega)] at this) ls
          rw [← HNN.out] at hpos
          by_cases hl0 : (0 : Int) < ls.length
          · have hn0 : 0 < n := hpos.2 (by omega)
            have hl1 : 0 < ls.length := by omega
            clear hpos
            go_wp2
            go_ret
            exact ⟨by simp [hl1], HB3.out⟩
          · have hn0 : ¬ 0 < n := fun h => hl0 (by have := hpos.1 h; omega)
            have hl1 : ¬ 0 < ls.length := by omega
            clear hpos
            go_wp2
            go_ret
            exact ⟨by simp [hl1], HB3.out⟩
end Go.Proofs.Ytmckggnjcdpaiaa
