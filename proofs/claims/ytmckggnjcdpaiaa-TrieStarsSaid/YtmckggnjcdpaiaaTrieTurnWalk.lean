/- TrieTurn, TrieMore, TrieStars, walked. -/
import Derived.Test.YtmckggnjcdpaiaaTrieTurnPure
set_option linter.unusedSimpArgs false
set_option linter.unusedVariables false
namespace Go.Proofs.Ytmckggnjcdpaiaa
open Go.RowKit
attribute [local go_sem] max_i64 min_i64

theorem rul_len (x : RulV) : (RulV.cells x).length = 2 := rfl
theorem rul_one (x : RulV) : ∀ u ∈ RulV.cells x, u.oneCell' = true := by
  intro u hu
  simp only [RulV.cells, List.mem_cons, List.not_mem_nil, or_false] at hu
  rcases hu with rfl | rfl <;> rfl
theorem rul_info : (Try.prog.info? 34).map (fun i => (i.zero, i.size, i.bytes)) = some (some (.agg #[.slice none 0 0, .bool false]), 2, 32) := by kernel_rfl
theorem str_len (x : ByteArray) : (strC x).length = 1 := rfl
theorem str_one (x : ByteArray) : ∀ u ∈ strC x, u.oneCell' = true := by
  intro u hu
  simp only [strC, List.mem_cons, List.not_mem_nil, or_false] at hu
  rcases hu with rfl; rfl
theorem str_info : (Try.prog.info? 9).map (fun i => (i.zero, i.size, i.bytes)) = some (some (.string ⟨#[]⟩), 1, 16) := by kernel_rfl

/-- The rules from one on. -/
theorem rul_tail {w : World} {A : Option Addr} {l : List RulV} (h : RowAt RulV.cells 2 w A l) {k : Nat} (hk : k ≤ l.length) {B : Option Addr} (hB : ∀ b off, A = some ⟨b, off, none⟩ → k < l.length → B = some ⟨b, off + k * 2, none⟩) : RowAt RulV.cells 2 w B (l.drop k) := by
  intro i x hx
  have hl := (List.getElem?_eq_some_iff.1 hx).1
  simp at hl
  rw [List.getElem?_drop] at hx
  obtain ⟨b, off, e, hc⟩ := h _ x hx
  refine ⟨b, off + k * 2, hB b off e (by omega), fun j u hu => ?_⟩
  have := hc j u hu
  rwa [show off + (k + i) * 2 + j = off + k * 2 + i * 2 + j by omega] at this

theorem TrieAt.far {w : World} {a : Addrs} {R E : List ByteArray → Bool} (h : TrieAt w a R E) {g : Nat} {t : TypeId} {cs : Array Value} (hg : Blk w g t cs) (ht : 44 ≠ t) (i : Nat) (u : Value) : TrieAt (w.setCell ⟨g, i, none⟩ u) a R E :=
  ⟨fun p b om e => (h.node p b om e).far ((h.node p b om e).ne_ hg ht) u, fun p b mb e => by obtain ⟨kvs, h1, h2⟩ := h.kids p b mb e; exact ⟨kvs, h1.far (h1.ne_blk hg) u, h2⟩, h.leaf, h.out, h.off⟩
theorem TrieOk.far {w : World} {t : Nat} {a : Addrs} {l : List Rule} {v : Int} (h : TrieOk w t a l v) {g : Nat} {cs : Array Value} (hg : Blk w g 34 cs) (i : Nat) (u : Value) : TrieOk (w.setCell ⟨g, i, none⟩ u) t a l v :=
  ⟨h.blk.far (h.blk.ne_ hg (by decide)) u, h.tree.far hg (by decide) i u⟩
/-- Two lists of rules, one behind the other, in a row of the call's own. -/
theorem mem_turn (l : List RulV) (k : Nat) : ∀ r, r ∈ ((l.drop k ++ l).map (·.r)) ↔ r ∈ (l.map (·.r)) := by
  intro r
  simp only [List.map_append, List.mem_append]
  constructor
  · rintro (h | h)
    · obtain ⟨x, hx, rfl⟩ := List.mem_map.1 h
      exact List.mem_map.2 ⟨x, List.mem_of_mem_drop hx, rfl⟩
    · exact h
  · exact .inr

set_option maxHeartbeats 2000000 in
theorem turn_calls (A : Option Addr) (c : Nat) (l : List RulV) (A2 : Option Addr) (c2 : Nat) (ls : List ByteArray) (n : Int) (w : World) (hn0 : 0 ≤ n) (hn1 : n < 256) (h : RowAt RulV.cells 2 w A l) (hok : ∀ x ∈ l, x.ok w) (h2 : RowAt strC 1 w A2 ls) (hlc : l.length ≤ c) (hcm : c ≤ maxLen) (hlc2 : ls.length ≤ c2) (hcm2 : c2 ≤ maxLen) :
    Calls Try.prog 5 #[.slice A l.length c, .slice A2 ls.length c2, .int .u8 n] w fun e w' => e = .returned (.bool true) ∧ Below w.heap.size w w' := by
  have F1 := Lib.hid (fun w' (hb : Below w.heap.size w w') => few_rules A c l w' (h.keep hb) (fun x hx => (hok x hx).keep hb) hlc hcm)
  have F2 := Lib.hid (fun w' (hb : Below w.heap.size w w') => few_strs A2 c2 ls w' (h2.keep hb) hlc2 hcm2)
  have HN := Lib.hid (fun w' (hb : Below w.heap.size w w') => new_calls A c l w' 1 (h.keep hb) (fun x hx => (hok x hx).keep hb) hlc hcm)
  have HR := Lib.hid (fun w' (hb : Below w.heap.size w w') => refSuffix_calls A c l A2 c2 ls w' (h.keep hb) (fun x hx => (hok x hx).keep hb) (h2.keep hb) hlc hcm hlc2 hcm2)
  have H := Lib.hid h
  have HOK := Lib.hid hok
  have H2 := Lib.hid h2
  clear h hok h2
  cases hf1 : fewR l
  · rw [hf1] at F1
    go_enter Try.func5, Try.ntmps5
    go_wp2_with (first
      | (go_at_call 8; refine (awake_calls _).mono ?_; rintro e w1 ⟨rfl, hb1⟩; have HB1 := Lib.hid hb1; clear hb1)
      | (go_at_call 9; refine (F1.out _ HB1.out).mono ?_; rintro e w' ⟨rfl, rfl⟩))
    go_ret
    exact ⟨rfl, HB1.out⟩
  · rw [hf1] at F1
    cases hf2 : fewS ls
    · rw [hf2] at F2
      go_enter Try.func5, Try.ntmps5
      go_wp2_with (first
        | (go_at_call 8; refine (awake_calls _).mono ?_; rintro e w1 ⟨rfl, hb1⟩; have HB1 := Lib.hid hb1; clear hb1)
        | (go_at_call 9; refine (F1.out _ HB1.out).mono ?_; rintro e w' ⟨rfl, rfl⟩)
        | (go_at_call 10; refine (F2.out _ HB1.out).mono ?_; rintro e w' ⟨rfl, rfl⟩))
      go_ret
      exact ⟨rfl, HB1.out⟩
    · rw [hf2] at F2
      have hl20 := fewS_len hf2
      have hr20 := fewR_len hf1
      obtain ⟨k, hk⟩ : ∃ k : Nat, n % ((l.length : Int) + 1) = (k : Int) := ⟨(n % ((l.length : Int) + 1)).toNat, by have := Int.emod_nonneg n (b := (l.length : Int) + 1) (by omega); omega⟩
      have hkl : k ≤ l.length := by have := Int.emod_lt_of_pos n (b := (l.length : Int) + 1) (by omega); omega
      have hkc : k ≤ c := Nat.le_trans hkl hlc
      clear hf1 hf2
      rcases Nat.eq_or_lt_of_le hkc with rfl | hkc'
      · skip
        go_enter Try.func5, Try.ntmps5
        go_wp2_with (first
          | (go_at_call 8; refine (awake_calls _).mono ?_; rintro e w1 ⟨rfl, hb1⟩; have HB1 := Lib.hid hb1; clear hb1)
          | (go_at_call 9; refine (F1.out _ HB1.out).mono ?_; rintro e w' ⟨rfl, rfl⟩)
          | (go_at_call 10; refine (F2.out _ HB1.out).mono ?_; rintro e w' ⟨rfl, rfl⟩)
          | (at_builtin; refine stop_here ?_))
        refine stop_go ?_
        refine wpList_appendR RulV.cells 2 rul_len (by omega) rul_one rfl (.tmp 29) (.tmp 32) _ 34 _ 32 rfl Try.underlying22 rul_info rfl (by omega) w1.heap.size (.slice (some ⟨w1.heap.size, 0, none⟩) 0 0) [] _ _ (l.drop k) rfl (by rw [show (l.drop k).length = 0 by simp; omega]; rfl) (OwnR.fresh w1 w1.heap.size 34 2 RulV.cells (Nat.le_refl _)) (by rw [List.drop_of_length_le hlc]; exact fun i x hx => by simp at hx) (by simp; omega) (by simp) ?_
        intro v1 w2 ho1 hg1 hat1
        rw [List.nil_append] at ho1
        have hb2 : Below w.heap.size w w2 := (HB1.out.alloc HB1.out.size _).grown hg1 (by simp; have := HB1.out.size; omega) (fun k e => by cases e; exact HB1.out.size)
        have hz2 : w1.heap.size ≤ w2.heap.size := Nat.le_trans (by simp) hg1.size
        obtain ⟨A3, c3, rfl, hr3, hl3, hm3, hb3⟩ := ho1.row rul_len
        have HO1 := Lib.hid ho1
        have HB2 := Lib.hid hb2
        have HZ2 := Lib.hid hz2
        have HB3 := Lib.hid hb3
        clear ho1 hg1 hat1 hb2 hz2 hr3 hl3 hm3 hb3
        go_wp2_with (at_builtin; refine stop_here ?_)
        refine stop_go ?_
        refine wpList_appendR RulV.cells 2 rul_len (by omega) rul_one rfl (.tmp 33) (.tmp 34) _ 34 _ 32 rfl Try.underlying22 rul_info rfl (by omega) w1.heap.size _ (l.drop k) A _ l (by rw [show (l.drop k).length = 0 by simp; omega]; rfl) rfl HO1.out (H.out.keep HB2.out) (by simp; omega) HZ2.out ?_
        intro v2 w3 ho2 hg2 hat2
        have hb3 : Below w.heap.size w w3 := HB2.out.grown hg2 HB2.out.size (fun k e => Nat.le_trans HB1.out.size (row_blk HO1.out e).1)
        have hz3 := Nat.le_trans HZ2.out hg2.size
        have hmem := mem_turn l k
        have hokT : ∀ x ∈ l.drop k ++ l, x.ok w := fun x hx => HOK.out x (by rcases List.mem_append.1 hx with h | h; exact List.mem_of_mem_drop h; exact h)
        have hT40 : (l.drop k ++ l).length ≤ 40 := by simp; omega
        generalize l.drop k ++ l = T at ho2 hat2 hmem hokT hT40 ⊢
        obtain ⟨A4, c4, rfl, hr4, hl4, hm4, hb4⟩ := ho2.row rul_len
        have HN2 := Lib.hid (fun w' (hb : Below w3.heap.size w3 w') => new_calls A4 c4 T w' 2 (hr4.keep hb) (fun x hx => (hokT x hx).keep (belowOn hb3 hb3.size hb)) hl4 hm4)
        have HMEM := Lib.hid hmem
        have HO2 := Lib.hid ho2
        have HB4 := Lib.hid hb3
        have HZ3 := Lib.hid hz3
        clear hmem hokT ho2 hb3 hz3 hr4 hb4 hg2 hat2
        go_wp2_with (first
          | (go_at_call_of 11 (Value.int .i64 1); refine (HN.out _ HB4.out).mono ?_; rintro e w4 ⟨⟨ta, aa, rfl, ht⟩, hb⟩; have HTA := Lib.hid ht; have HBA := Lib.hid hb; clear ht hb)
          | (go_at_call_of 11 (Value.int .i64 2); refine (HN2.out _ HBA.out).mono ?_; rintro e w5 ⟨⟨tb, ab, rfl, ht⟩, hb⟩; have HTB := Lib.hid ht; have HBB := Lib.hid hb; clear ht hb))
        have hO5 := row_below HO2.out (belowOn HBA.out HBA.out.size HBB.out)
        have hB5 := belowOn HB4.out HB4.out.size (belowOn HBA.out HBA.out.size HBB.out)
        have HTA5 := Lib.hid (HTA.out.keep HBB.out)
        have HO5 := Lib.hid hO5
        have HB5 := Lib.hid hB5
        clear hO5 hB5
        go_loopg [12] T.length (fun m v12 w' => Hid (∃ (i : Nat), v12 = .int .i64 i ∧ i ≤ T.length ∧ m = T.length - i ∧ (∃ xs, w'.ownsRow w1.heap.size 34 2 (.slice A4 T.length c4) T.length xs) ∧ TrieOk w' ta aa (l.map (·.r)) 1 ∧ TrieOk w' tb ab (T.map (·.r)) 2 ∧ Below w.heap.size w w'))
        case atStart => exact ⟨0, rfl, Nat.zero_le _, rfl, ⟨_, HO5.out⟩, HTA5.out, HTB.out, HB5.out⟩
        case round =>
          obtain ⟨i, rfl, hi, hm, ⟨xs, ho⟩, hta, htb, hb⟩ := hrel.out
          clear hrel HTA5 HTB HTA HO5 HB5
          have HM := Lib.hid hm
          have HO := Lib.hid ho
          have HTA := Lib.hid hta
          have HTB := Lib.hid htb
          have HB := Lib.hid hb
          clear hm ho hta htb hb
          by_cases hlt : i < T.length
          · obtain ⟨g, cap, cur, hv, hbg, hnc, hmc, hgg, hcc, hfz⟩ := row_form HO.out (by omega)
            cases hv
            have hlen : xs.length = T.length * 2 := HO.out.1
            obtain ⟨u0, hu0⟩ : ∃ u, xs[i * 2]? = some u := ⟨xs[i * 2]'(by omega), List.getElem?_eq_getElem _⟩
            obtain ⟨u1, hu1⟩ : ∃ u, xs[i * 2 + 1]? = some u := ⟨xs[i * 2 + 1]'(by omega), List.getElem?_eq_getElem _⟩
            have d0 := hcc _ _ hu0
            have d1 := hcc _ _ hu1
            have f0 := hfz (i * 2)
            have f1 := hfz (i * 2 + 1)
            have hGB : Blk wr g 34 cur := hgg
            have HGB := Lib.hid hGB
            have HBG := Lib.hid (Nat.le_trans HB1.out.size hbg)
            clear hgg hcc hfz hu0 hu1 hGB hbg
            go_wp2
            go_roundg (T.length - (i + 1))
            case measure => have := HM.out; omega
            case rel => exact ⟨i + 1, (by first | exact wrap_up _ _ _ hlt hl4 hm4 | simp), by omega, rfl, ⟨_, row_set (row_set HO.out)⟩, (HTA.out.far HGB.out _ _).far (HGB.out.set_ _ _) _ _, (HTB.out.far HGB.out _ _).far (HGB.out.set_ _ _) _ _, (HB.out.setCell (p := ⟨g, i * 2, none⟩) HBG.out _).setCell (p := ⟨g, i * 2 + 1, none⟩) HBG.out _⟩
          · have hsame := suffix_same (l := T.map (·.r)) (l' := l.map (·.r)) ls HMEM.out
            have HSAME := Lib.hid hsame
            clear hsame
            go_wp2_with (first
              | (go_at_call 13; refine (HR.out _ (belowOn HB.out HB.out.size HS3.out)).mono ?_; rintro e w9 ⟨rfl, hb⟩; have HS4 := Lib.hid (belowOn HS3.out HS3.out.size hb); clear hb)
              | (go_at_call_of 12 (Value.pointer (some ⟨tb, 0, none⟩)); refine (suffix_calls (HTB.out.keep HS1.out) A2 c2 ls (H2.out.keep (belowOn HB.out HB.out.size HS1.out)) hlc2 hcm2 (by omega)).mono ?_; rw [HSAME.out]; rintro e w7 ⟨rfl, hb⟩; have HS2 := Lib.hid (belowOn HS1.out HS1.out.size hb); clear hb)
              | (go_at_call_of 12 (Value.pointer (some ⟨ta, 0, none⟩)); refine (suffix_calls (HTA.out.keep HS2.out) A2 c2 ls (H2.out.keep (belowOn HB.out HB.out.size HS2.out)) hlc2 hcm2 (by omega)).mono ?_; rintro e w8 ⟨rfl, hb⟩; have HS3 := Lib.hid (belowOn HS2.out HS2.out.size hb); clear hb)
              | (go_at_call_of 12 (Value.pointer (some ⟨ta, 0, none⟩)); refine (suffix_calls HTA.out A2 c2 ls (H2.out.keep HB.out) hlc2 hcm2 (by omega)).mono ?_; rintro e w6 ⟨rfl, hb⟩; have HS1 := Lib.hid hb; clear hb))
            go_ret
            exact ⟨rfl, belowOn HB.out HB.out.size HS4.out⟩
      · skip
        go_enter Try.func5, Try.ntmps5
        go_wp2_with (first
          | (go_at_call 8; refine (awake_calls _).mono ?_; rintro e w1 ⟨rfl, hb1⟩; have HB1 := Lib.hid hb1; clear hb1)
          | (go_at_call 9; refine (F1.out _ HB1.out).mono ?_; rintro e w' ⟨rfl, rfl⟩)
          | (go_at_call 10; refine (F2.out _ HB1.out).mono ?_; rintro e w' ⟨rfl, rfl⟩)
          | (at_builtin; refine stop_here ?_))
        refine stop_go ?_
        refine wpList_appendR RulV.cells 2 rul_len (by omega) rul_one rfl (.tmp 29) (.tmp 32) _ 34 _ 32 rfl Try.underlying22 rul_info rfl (by omega) w1.heap.size (.slice (some ⟨w1.heap.size, 0, none⟩) 0 0) [] _ _ (l.drop k) rfl (by rw [List.length_drop]; rfl) (OwnR.fresh w1 w1.heap.size 34 2 RulV.cells (Nat.le_refl _)) ((rul_tail (H.out.keep HB1.out) hkl (fun b off e hk => by rw [e]; show some _ = some _; unfold Addr.add; split <;> simp_all)).keep ((Below.refl _ _).alloc (Nat.le_refl _) _)) (by simp; omega) (by simp) ?_
        intro v1 w2 ho1 hg1 hat1
        rw [List.nil_append] at ho1
        have hb2 : Below w.heap.size w w2 := (HB1.out.alloc HB1.out.size _).grown hg1 (by simp; have := HB1.out.size; omega) (fun k e => by cases e; exact HB1.out.size)
        have hz2 : w1.heap.size ≤ w2.heap.size := Nat.le_trans (by simp) hg1.size
        obtain ⟨A3, c3, rfl, hr3, hl3, hm3, hb3⟩ := ho1.row rul_len
        have HO1 := Lib.hid ho1
        have HB2 := Lib.hid hb2
        have HZ2 := Lib.hid hz2
        have HB3 := Lib.hid hb3
        clear ho1 hg1 hat1 hb2 hz2 hr3 hl3 hm3 hb3
        go_wp2_with (at_builtin; refine stop_here ?_)
        refine stop_go ?_
        refine wpList_appendR RulV.cells 2 rul_len (by omega) rul_one rfl (.tmp 33) (.tmp 34) _ 34 _ 32 rfl Try.underlying22 rul_info rfl (by omega) w1.heap.size _ (l.drop k) A _ l (by rw [List.length_drop]; rfl) rfl HO1.out (H.out.keep HB2.out) (by simp; omega) HZ2.out ?_
        intro v2 w3 ho2 hg2 hat2
        have hb3 : Below w.heap.size w w3 := HB2.out.grown hg2 HB2.out.size (fun k e => Nat.le_trans HB1.out.size (row_blk HO1.out e).1)
        have hz3 := Nat.le_trans HZ2.out hg2.size
        have hmem := mem_turn l k
        have hokT : ∀ x ∈ l.drop k ++ l, x.ok w := fun x hx => HOK.out x (by rcases List.mem_append.1 hx with h | h; exact List.mem_of_mem_drop h; exact h)
        have hT40 : (l.drop k ++ l).length ≤ 40 := by simp; omega
        generalize l.drop k ++ l = T at ho2 hat2 hmem hokT hT40 ⊢
        obtain ⟨A4, c4, rfl, hr4, hl4, hm4, hb4⟩ := ho2.row rul_len
        have HN2 := Lib.hid (fun w' (hb : Below w3.heap.size w3 w') => new_calls A4 c4 T w' 2 (hr4.keep hb) (fun x hx => (hokT x hx).keep (belowOn hb3 hb3.size hb)) hl4 hm4)
        have HMEM := Lib.hid hmem
        have HO2 := Lib.hid ho2
        have HB4 := Lib.hid hb3
        have HZ3 := Lib.hid hz3
        clear hmem hokT ho2 hb3 hz3 hr4 hb4 hg2 hat2
        go_wp2_with (first
          | (go_at_call_of 11 (Value.int .i64 1); refine (HN.out _ HB4.out).mono ?_; rintro e w4 ⟨⟨ta, aa, rfl, ht⟩, hb⟩; have HTA := Lib.hid ht; have HBA := Lib.hid hb; clear ht hb)
          | (go_at_call_of 11 (Value.int .i64 2); refine (HN2.out _ HBA.out).mono ?_; rintro e w5 ⟨⟨tb, ab, rfl, ht⟩, hb⟩; have HTB := Lib.hid ht; have HBB := Lib.hid hb; clear ht hb))
        have hO5 := row_below HO2.out (belowOn HBA.out HBA.out.size HBB.out)
        have hB5 := belowOn HB4.out HB4.out.size (belowOn HBA.out HBA.out.size HBB.out)
        have HTA5 := Lib.hid (HTA.out.keep HBB.out)
        have HO5 := Lib.hid hO5
        have HB5 := Lib.hid hB5
        clear hO5 hB5
        go_loopg [12] T.length (fun m v12 w' => Hid (∃ (i : Nat), v12 = .int .i64 i ∧ i ≤ T.length ∧ m = T.length - i ∧ (∃ xs, w'.ownsRow w1.heap.size 34 2 (.slice A4 T.length c4) T.length xs) ∧ TrieOk w' ta aa (l.map (·.r)) 1 ∧ TrieOk w' tb ab (T.map (·.r)) 2 ∧ Below w.heap.size w w'))
        case atStart => exact ⟨0, rfl, Nat.zero_le _, rfl, ⟨_, HO5.out⟩, HTA5.out, HTB.out, HB5.out⟩
        case round =>
          obtain ⟨i, rfl, hi, hm, ⟨xs, ho⟩, hta, htb, hb⟩ := hrel.out
          clear hrel HTA5 HTB HTA HO5 HB5
          have HM := Lib.hid hm
          have HO := Lib.hid ho
          have HTA := Lib.hid hta
          have HTB := Lib.hid htb
          have HB := Lib.hid hb
          clear hm ho hta htb hb
          by_cases hlt : i < T.length
          · obtain ⟨g, cap, cur, hv, hbg, hnc, hmc, hgg, hcc, hfz⟩ := row_form HO.out (by omega)
            cases hv
            have hlen : xs.length = T.length * 2 := HO.out.1
            obtain ⟨u0, hu0⟩ : ∃ u, xs[i * 2]? = some u := ⟨xs[i * 2]'(by omega), List.getElem?_eq_getElem _⟩
            obtain ⟨u1, hu1⟩ : ∃ u, xs[i * 2 + 1]? = some u := ⟨xs[i * 2 + 1]'(by omega), List.getElem?_eq_getElem _⟩
            have d0 := hcc _ _ hu0
            have d1 := hcc _ _ hu1
            have f0 := hfz (i * 2)
            have f1 := hfz (i * 2 + 1)
            have hGB : Blk wr g 34 cur := hgg
            have HGB := Lib.hid hGB
            have HBG := Lib.hid (Nat.le_trans HB1.out.size hbg)
            clear hgg hcc hfz hu0 hu1 hGB hbg
            go_wp2
            go_roundg (T.length - (i + 1))
            case measure => have := HM.out; omega
            case rel => exact ⟨i + 1, (by first | exact wrap_up _ _ _ hlt hl4 hm4 | simp), by omega, rfl, ⟨_, row_set (row_set HO.out)⟩, (HTA.out.far HGB.out _ _).far (HGB.out.set_ _ _) _ _, (HTB.out.far HGB.out _ _).far (HGB.out.set_ _ _) _ _, (HB.out.setCell (p := ⟨g, i * 2, none⟩) HBG.out _).setCell (p := ⟨g, i * 2 + 1, none⟩) HBG.out _⟩
          · have hsame := suffix_same (l := T.map (·.r)) (l' := l.map (·.r)) ls HMEM.out
            have HSAME := Lib.hid hsame
            clear hsame
            go_wp2_with (first
              | (go_at_call 13; refine (HR.out _ (belowOn HB.out HB.out.size HS3.out)).mono ?_; rintro e w9 ⟨rfl, hb⟩; have HS4 := Lib.hid (belowOn HS3.out HS3.out.size hb); clear hb)
              | (go_at_call_of 12 (Value.pointer (some ⟨tb, 0, none⟩)); refine (suffix_calls (HTB.out.keep HS1.out) A2 c2 ls (H2.out.keep (belowOn HB.out HB.out.size HS1.out)) hlc2 hcm2 (by omega)).mono ?_; rw [HSAME.out]; rintro e w7 ⟨rfl, hb⟩; have HS2 := Lib.hid (belowOn HS1.out HS1.out.size hb); clear hb)
              | (go_at_call_of 12 (Value.pointer (some ⟨ta, 0, none⟩)); refine (suffix_calls (HTA.out.keep HS2.out) A2 c2 ls (H2.out.keep (belowOn HB.out HB.out.size HS2.out)) hlc2 hcm2 (by omega)).mono ?_; rintro e w8 ⟨rfl, hb⟩; have HS3 := Lib.hid (belowOn HS2.out HS2.out.size hb); clear hb)
              | (go_at_call_of 12 (Value.pointer (some ⟨ta, 0, none⟩)); refine (suffix_calls HTA.out A2 c2 ls (H2.out.keep HB.out) hlc2 hcm2 (by omega)).mono ?_; rintro e w6 ⟨rfl, hb⟩; have HS1 := Lib.hid hb; clear hb))
            go_ret
            exact ⟨rfl, belowOn HB.out HB.out.size HS4.out⟩
end Go.Proofs.Ytmckggnjcdpaiaa
