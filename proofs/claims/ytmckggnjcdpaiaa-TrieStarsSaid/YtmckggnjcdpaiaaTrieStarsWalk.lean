/- TrieStars, walked. -/
import Derived.Test.YtmckggnjcdpaiaaTrieTurnWalk
set_option linter.unusedSimpArgs false
set_option linter.unusedVariables false
namespace Go.Proofs.Ytmckggnjcdpaiaa
open Go.RowKit
attribute [local go_sem] max_i64 min_i64

/-- A list of one rule, made. -/
theorem star_row (w : World) (s : ByteArray) :
    RowAt RulV.cells 2 ((w.alloc (.cells #[.string s, .string ⟨#[42]⟩, .string ⟨#[42]⟩] 9)).alloc (.cells #[.slice (some ⟨w.heap.size, 0, none⟩) 3 3, .bool false] 34)) (some ⟨w.heap.size + 1, 0, none⟩) [⟨some ⟨w.heap.size, 0, none⟩, 3, ⟨[s, star, star], false⟩⟩] ∧
    (∀ x ∈ [(⟨some ⟨w.heap.size, 0, none⟩, 3, ⟨[s, star, star], false⟩⟩ : RulV)], x.ok ((w.alloc (.cells #[.string s, .string ⟨#[42]⟩, .string ⟨#[42]⟩] 9)).alloc (.cells #[.slice (some ⟨w.heap.size, 0, none⟩) 3 3, .bool false] 34))) ∧
    Below w.heap.size w ((w.alloc (.cells #[.string s, .string ⟨#[42]⟩, .string ⟨#[42]⟩] 9)).alloc (.cells #[.slice (some ⟨w.heap.size, 0, none⟩) 3 3, .bool false] 34)) := by
  have b0 : Blk ((w.alloc (.cells #[.string s, .string ⟨#[42]⟩, .string ⟨#[42]⟩] 9)).alloc (.cells #[.slice (some ⟨w.heap.size, 0, none⟩) 3 3, .bool false] 34)) w.heap.size 9 ([s, star, star].map Value.string).toArray := (Blk.new w _ _).alloc _
  have b1 : Blk ((w.alloc (.cells #[.string s, .string ⟨#[42]⟩, .string ⟨#[42]⟩] 9)).alloc (.cells #[.slice (some ⟨w.heap.size, 0, none⟩) 3 3, .bool false] 34)) (w.heap.size + 1) 34 #[.slice (some ⟨w.heap.size, 0, none⟩) 3 3, .bool false] := by
    have := Blk.new (w.alloc (.cells #[.string s, .string ⟨#[42]⟩, .string ⟨#[42]⟩] 9)) 34 #[.slice (some ⟨w.heap.size, 0, none⟩) 3 3, .bool false]
    simpa using this
  refine ⟨rowAt_blk (f := RulV.cells) (fun _ => rfl) b1 rfl, fun x hx => ?_, ((Below.refl _ w).alloc (Nat.le_refl _) _).alloc (by simp) _⟩
  simp only [List.mem_singleton] at hx
  subst hx
  exact ⟨Nat.le_refl _, by simp [maxLen], strs_blk b0⟩

set_option maxHeartbeats 4000000 in
theorem stars_calls (A : Option Addr) (c : Nat) (l : List RulV) (A2 : Option Addr) (c2 : Nat) (ls : List ByteArray) (m : ByteArray) (w : World) (h : RowAt RulV.cells 2 w A l) (hok : ∀ x ∈ l, x.ok w) (h2 : RowAt strC 1 w A2 ls) (hlc : l.length ≤ c) (hcm : c ≤ maxLen) (hlc2 : ls.length ≤ c2) (hcm2 : c2 ≤ maxLen) :
    Calls Try.prog 7 #[.slice A l.length c, .slice A2 ls.length c2, .string m] w fun e w' => e = .returned (.bool true) ∧ Below w.heap.size w w' := by
  have F1 := Lib.hid (fun w' (hb : Below w.heap.size w w') => few_rules A c l w' (h.keep hb) (fun x hx => (hok x hx).keep hb) hlc hcm)
  have F2 := Lib.hid (fun w' (hb : Below w.heap.size w w') => few_strs A2 c2 ls w' (h2.keep hb) hlc2 hcm2)
  have HN := Lib.hid (fun w' (hb : Below w.heap.size w w') => new_calls A c l w' 1 (h.keep hb) (fun x hx => (hok x hx).keep hb) hlc hcm)
  have H := Lib.hid h
  have HOK := Lib.hid hok
  have H2 := Lib.hid h2
  clear h hok h2
  cases hf1 : fewR l
  · rw [hf1] at F1
    go_enter Try.func7, Try.ntmps7
    go_wp2_with (first
      | (go_at_call 8; refine (awake_calls _).mono ?_; rintro e w1 ⟨rfl, hb1⟩; have HB1 := Lib.hid hb1; clear hb1)
      | (go_at_call 9; refine (F1.out _ HB1.out).mono ?_; rintro e w' ⟨rfl, rfl⟩))
    go_ret
    exact ⟨rfl, HB1.out⟩
  · rw [hf1] at F1
    cases hf2 : fewS ls
    · rw [hf2] at F2
      go_enter Try.func7, Try.ntmps7
      go_wp2_with (first
        | (go_at_call 8; refine (awake_calls _).mono ?_; rintro e w1 ⟨rfl, hb1⟩; have HB1 := Lib.hid hb1; clear hb1)
        | (go_at_call 9; refine (F1.out _ HB1.out).mono ?_; rintro e w' ⟨rfl, rfl⟩)
        | (go_at_call 10; refine (F2.out _ HB1.out).mono ?_; rintro e w' ⟨rfl, rfl⟩))
      go_ret
      exact ⟨rfl, HB1.out⟩
    · rw [hf2] at F2
      have hl20 := fewS_len hf2
      have hr20 := fewR_len hf1
      clear hf1 hf2
      obtain ⟨nl, hnl⟩ : ∃ nl, nl = ls.length := ⟨_, rfl⟩
      rw [← hnl] at F2 hlc2 hl20 ⊢
      have HNL := Lib.hid hnl
      clear hnl
      by_cases hl0 : (nl : Int) = 0
      · go_enter Try.func7, Try.ntmps7
        go_wp2_with (first
          | (go_at_call 8; refine (awake_calls _).mono ?_; rintro e w1 ⟨rfl, hb1⟩; have HB1 := Lib.hid hb1; clear hb1)
          | (go_at_call 9; refine (F1.out _ HB1.out).mono ?_; rintro e w' ⟨rfl, rfl⟩)
          | (go_at_call 10; refine (F2.out _ HB1.out).mono ?_; rintro e w' ⟨rfl, rfl⟩))
        go_ret
        exact ⟨rfl, HB1.out⟩
      · by_cases hm60 : (m.size : Int) > 60
        · go_enter Try.func7, Try.ntmps7
          go_wp2_with (first
            | (go_at_call 8; refine (awake_calls _).mono ?_; rintro e w1 ⟨rfl, hb1⟩; have HB1 := Lib.hid hb1; clear hb1)
            | (go_at_call 9; refine (F1.out _ HB1.out).mono ?_; rintro e w' ⟨rfl, rfl⟩)
            | (go_at_call 10; refine (F2.out _ HB1.out).mono ?_; rintro e w' ⟨rfl, rfl⟩))
          go_ret
          exact ⟨rfl, HB1.out⟩
        · obtain ⟨s, ls', rfl⟩ : ∃ s ls', ls = s :: ls' := by
            cases ls with
            | nil => have := HNL.out; simp at this; omega
            | cons s ls' => exact ⟨s, ls', rfl⟩
          have hnl1 : 1 ≤ nl := by omega
          have hb0 : ((nl : Int) == 0) = false := by simpa using hl0
          have hm61 : ¬ 60 < (m.size : Int) := by omega
          go_enter Try.func7, Try.ntmps7
          go_wp2_with (first
            | (go_at_call 8; refine (awake_calls _).mono ?_; rintro e w1 ⟨rfl, hb1⟩; have HB1 := Lib.hid hb1; clear hb1)
            | (go_at_call 9; refine (F1.out _ HB1.out).mono ?_; rintro e w' ⟨rfl, rfl⟩)
            | (go_at_call 10; refine (F2.out _ HB1.out).mono ?_; rintro e w' ⟨rfl, rfl⟩)
            | (go_at_call 11; refine (HN.out _ HB1.out).mono ?_; rintro e w2 ⟨⟨ta, aa, rfl, ht⟩, hb⟩; have HTA := Lib.hid ht; have HB2 := Lib.hid (belowOn HB1.out HB1.out.size hb); clear ht hb)
            | (at_builtin; refine stop_here ?_))
          refine stop_go ?_
          refine wpList_appendR strC 1 str_len (by omega) str_one rfl (.tmp 34) (.tmp 35) _ 9 _ 16 rfl Try.underlying23 str_info rfl (by omega) w2.heap.size (.slice (some ⟨w2.heap.size, 0, none⟩) 0 0) [] A2 c2 (s :: ls') rfl (by rw [← HNL.out]; rfl) (OwnR.fresh w2 w2.heap.size 9 1 strC (Nat.le_refl _)) ((H2.out.keep HB2.out).keep ((Below.refl _ _).alloc (Nat.le_refl _) _)) (by rw [← HNL.out]; simp; omega) (by simp) ?_
          intro v3 w3 ho3 hg3 hat3
          rw [List.nil_append] at ho3
          have hb3 : Below w2.heap.size w2 w3 := ((Below.refl _ w2).alloc (Nat.le_refl _) _).grown hg3 (by simp) (fun k e => by simp [Value.ownBlock] at e; omega)
          have HO3 := Lib.hid ho3
          have HB3 := Lib.hid hb3
          have HO3' := Lib.hid (Nat.le_trans hb3.size (by simp) : w2.heap.size ≤ (w3.alloc (.cells #[.string m] 9)).heap.size)
          clear ho3 hg3 hat3 hb3
          go_wp2_with (at_builtin; refine stop_here ?_)
          refine stop_go ?_
          refine wpList_appendR strC 1 str_len (by omega) str_one rfl (.tmp 36) (.tmp 38) _ 9 _ 16 rfl Try.underlying23 str_info rfl (by omega) w2.heap.size v3 (s :: ls') (some ⟨w3.heap.size, 0, none⟩) 1 [m] rfl rfl (HO3.out.below ((Below.refl _ _).alloc (Nat.le_refl _) _)) (rowAt_blk (f := strC) (fun _ => rfl) (Blk.new w3 _ #[.string m]) rfl) (by rw [← HNL.out]; simp; omega) HO3'.out ?_
          intro v4 w4 ho4 hg4 hat4
          have hb4 : Below w2.heap.size w2 w4 := (HB3.out.alloc HB3.out.size _).grown hg4 HO3'.out (fun k e => (row_blk HO3.out e).1)
          obtain ⟨A4, c4, rfl, hr4, hl4, hm4, hx4⟩ := ho4.row str_len
          rw [show ((s :: ls') ++ [m]).length = nl + 1 by rw [HNL.out]; simp] at hl4 ⊢
          have HTA4 := Lib.hid (HTA.out.keep hb4)
          have HR4 := Lib.hid hr4
          have HB4 := Lib.hid (belowOn HB2.out HB2.out.size hb4)
          clear ho4 hg4 hat4 hb4 hr4 hx4 HO3 HB3 HO3'
          go_wp2
          go_loopg [10] l.length (fun k v10 w' => Hid (∃ (i : Nat), v10 = .int .i64 i ∧ i ≤ l.length ∧ k = l.length - i ∧ (∀ x ∈ l.take i, x.r.labels.length ≤ nl) ∧ w' = w4))
          case atStart => exact ⟨0, rfl, Nat.zero_le _, rfl, by simp, rfl⟩
          case round =>
            obtain ⟨i, rfl, hi, hk, hall, rfl⟩ := hrel.out
            clear hrel
            have HK := Lib.hid hk
            have HALL := Lib.hid hall
            clear hk hall
            by_cases hlt : i < l.length
            · obtain ⟨x, hx⟩ : ∃ x, l[i]? = some x := ⟨l[i]'hlt, List.getElem?_eq_getElem hlt⟩
              obtain ⟨b, off, rfl, c0, c1⟩ := rul_at (H.out.keep HB4.out) hx
              have HX := Lib.hid hx
              clear hx
              by_cases hgt : (x.r.labels.length : Int) > nl
              · go_wp2
                go_ret
                exact ⟨rfl, HB4.out⟩
              · go_wp2
                go_roundg (l.length - (i + 1))
                case measure => have := HK.out; omega
                case rel => exact ⟨i + 1, (by first | exact wrap_up _ _ _ hlt hlc hcm | simp), by omega, rfl, take_all HALL.out HX.out (by omega), rfl⟩
            · have hall : ∀ x ∈ l, x.r.labels.length ≤ nl := by have := HALL.out; rwa [List.take_of_length_le (by omega)] at this
              have hlong := suffix_longer (l.map (·.r)) (s :: ls') m (by simp) (fun r hr => by obtain ⟨x, hx, rfl⟩ := List.mem_map.1 hr; rw [← HNL.out]; exact hall x hx)
              have HLONG := Lib.hid hlong
              obtain ⟨b2, off2, rfl, l0⟩ := str_at (H2.out.keep HB4.out) (i := 0) (a := s) rfl
              simp only [Nat.add_zero] at l0
              have hst := star_row wr s
              have HN2 := Lib.hid (new_calls (some ⟨wr.heap.size + 1, 0, none⟩) 1 [⟨some ⟨wr.heap.size, 0, none⟩, 3, ⟨[s, star, star], false⟩⟩] _ 1 hst.1 hst.2.1 (Nat.le_refl _) (by simp [maxLen]))
              have HBS := Lib.hid hst.2.2
              have hnl0 : (0 : Int) < nl := by omega
              have hsl := fun w' (hb : Below wr.heap.size wr w') => suffix_calls (HTA4.out.keep hb) A4 c4 ((s :: ls') ++ [m]) (HR4.out.keep hb) (by rw [show ((s :: ls') ++ [m]).length = nl + 1 by rw [HNL.out]; simp]; exact hl4) hm4 (by rw [show ((s :: ls') ++ [m]).length = nl + 1 by rw [HNL.out]; simp]; omega)
              rw [show ((s :: ls') ++ [m]).length = nl + 1 by rw [HNL.out]; simp, HLONG.out] at hsl
              have hss := fun w' (hb : Below wr.heap.size wr w') => suffix_calls (HTA4.out.keep hb) (some ⟨b2, off2, none⟩) c2 (s :: ls') ((H2.out.keep HB4.out).keep hb) (by rw [← HNL.out]; exact hlc2) hcm2 (by rw [← HNL.out]; omega)
              rw [← HNL.out] at hss
              have HSL := Lib.hid hsl
              have HSS := Lib.hid hss
              have H2W := Lib.hid (H2.out.keep HB4.out)
              clear hall hlong hst hsl hss
              go_wp2_with (first
                | (go_at_call 11; refine HN2.out.mono ?_; rintro e w6 ⟨⟨ts, asx, rfl, ht⟩, hb⟩; have HTS := Lib.hid ht; have HB6 := Lib.hid (belowOn HBS.out HBS.out.size hb); clear ht hb)
                | (go_at_call_of 12 (Value.slice (some ⟨b2, off2, none⟩) nl c2); refine (HSS.out _ HB7.out).mono ?_; rintro e w8 ⟨rfl, hb⟩; have HTS8 := Lib.hid (HTS7.out.keep hb); have HB8 := Lib.hid (belowOn HB7.out HB7.out.size hb); obtain ⟨b8, off8, e8, l08⟩ := str_at (H2W.out.keep HB8.out) (i := 0) (a := s) rfl; cases e8; simp only [Nat.add_zero] at l08; clear hb)
                | (go_at_call_of 12 (Value.pointer (some ⟨ta, 0, none⟩)); refine (HSL.out _ HB6.out).mono ?_; rintro e w7 ⟨rfl, hb⟩; have HTS7 := Lib.hid (HTS.out.keep hb); have HB7 := Lib.hid (belowOn HB6.out HB6.out.size hb); clear hb)
                | (go_at_call_of 12 (Value.pointer (some ⟨ts, 0, none⟩)); refine (suf_fresh3 HTS8.out (Below.refl _ _) s m m 3 (suffix_stars s m)).mono ?_; rintro e w9 ⟨rfl, hb⟩; have HB9 := Lib.hid (belowOn HB8.out HB8.out.size hb); clear hb))
              go_ret
              exact ⟨rfl, belowOn HB4.out HB4.out.size HB9.out⟩
end Go.Proofs.Ytmckggnjcdpaiaa
