/- TrieMore, walked. -/
import Derived.Test.YtmckggnjcdpaiaaTrieTurnWalk
import Derived.Deep.DeepCutAuto
import Derived.Deep.CutRange
set_option linter.unusedSimpArgs false
set_option linter.unusedVariables false
namespace Go.Proofs.Ytmckggnjcdpaiaa
open Go.RowKit
attribute [local go_sem] max_i64 min_i64

theorem OwnR.drew {α : Type} {e : TypeId} {sz B : Nat} {f : α → List Value} {w : World} {v : Value} {l : List α} (h : OwnR w B e sz f v l) : OwnR w.drew B e sz f v l := row_keep h fun _ _ => rfl
theorem one_rule {w : World} {x : RulV} (hx : x.ok w) : RowAt RulV.cells 2 (w.alloc (.cells #[.slice x.A x.r.labels.length x.c, .bool x.r.except] 34)) (some ⟨w.heap.size, 0, none⟩) [x] ∧ ∀ y ∈ [x], y.ok (w.alloc (.cells #[.slice x.A x.r.labels.length x.c, .bool x.r.except] 34)) := by
  refine ⟨rowAt_blk (f := RulV.cells) (fun _ => rfl) (Blk.new w _ _) rfl, fun y hy => ?_⟩
  simp only [List.mem_singleton] at hy
  subst hy
  exact hx.keep ((Below.refl _ w).alloc (Nat.le_refl _) _)
theorem rule_box {w : World} {rb : Nat} {x : RulV} (h : Blk w rb 34 #[.slice x.A x.r.labels.length x.c, .bool x.r.except]) :
    w.cell? ⟨rb, 0, none⟩ = some (.slice x.A x.r.labels.length x.c) ∧ w.cell? ⟨rb, 1, none⟩ = some (.bool x.r.except) := by
  refine ⟨?_, ?_⟩ <;> (rw [h.cell]; rfl)
/-- What stands in the row while the longer list is made. -/
structure MSt (w0 w3 w : World) (x : RulV) : Prop where
  be : Below w0.heap.size w0 w
  bx : Blk w w0.heap.size 34 #[.slice x.A x.r.labels.length x.c, .bool x.r.except]
  sz : w3.heap.size ≤ w.heap.size
  lt : w0.heap.size < w3.heap.size
section
variable {w0 w3 w w' : World} {x : RulV}
theorem MSt.drew (h : MSt w0 w3 w x) : MSt w0 w3 w.drew x := ⟨h.be.drew, h.bx.drew, h.sz, h.lt⟩
theorem MSt.alloc (h : MSt w0 w3 w x) (o : Obj) : MSt w0 w3 (w.alloc o) x := ⟨h.be.alloc (by have := h.sz; have := h.lt; omega) o, h.bx.alloc o, Nat.le_trans h.sz (by simp), h.lt⟩
theorem MSt.keep (h : MSt w0 w3 w x) (hb : Below w.heap.size w w') : MSt w0 w3 w' x := ⟨belowOn h.be h.be.size hb, h.bx.keep hb, Nat.le_trans h.sz hb.size, h.lt⟩
theorem MSt.grown {row : Option Nat} (h : MSt w0 w3 w x) (hg : w.grownBy w' row) (hr : ∀ k, row = some k → w3.heap.size ≤ k) : MSt w0 w3 w' x :=
  ⟨h.be.grown hg h.be.size (fun k e => by have := hr k e; have := h.lt; omega), h.bx.grown hg (fun e => by have := hr _ e.symm; have := h.lt; omega), Nat.le_trans h.sz hg.size, h.lt⟩
end
def ruleObj (x : RulV) : Obj := .cells #[.slice x.A x.r.labels.length x.c, .bool x.r.except] 34
theorem float_two (w : World) (x : RulV) : OwnR ((w.alloc (.cells #[] 34)).alloc (.cells #[.slice x.A x.r.labels.length x.c, .bool x.r.except] 34)) w.heap.size 34 2 RulV.cells (.slice (some ⟨w.heap.size, 0, none⟩) 0 0) [] ∧
    Blk ((w.alloc (.cells #[] 34)).alloc (.cells #[.slice x.A x.r.labels.length x.c, .bool x.r.except] 34)) (w.heap.size + 1) 34 #[.slice x.A x.r.labels.length x.c, .bool x.r.except] := by
  refine ⟨(OwnR.fresh w w.heap.size 34 2 RulV.cells (Nat.le_refl _)).below ((Below.refl _ _).alloc (Nat.le_refl _) _), ?_⟩
  have := Blk.new (w.alloc (.cells #[] 34)) 34 #[.slice x.A x.r.labels.length x.c, .bool x.r.except]
  simpa using this
theorem float_three (w : World) (x : RulV) : OwnR ((w.alloc (.cells #[.slice x.A x.r.labels.length x.c, .bool x.r.except] 34)).alloc (.cells #[] 34)) w.heap.size 34 2 RulV.cells (.slice (some ⟨w.heap.size + 1, 0, none⟩) 0 0) [] ∧
    Blk ((w.alloc (.cells #[.slice x.A x.r.labels.length x.c, .bool x.r.except] 34)).alloc (.cells #[] 34)) w.heap.size 34 #[.slice x.A x.r.labels.length x.c, .bool x.r.except] := by
  refine ⟨?_, (Blk.new w _ _).alloc _⟩
  have := OwnR.fresh (w.alloc (.cells #[.slice x.A x.r.labels.length x.c, .bool x.r.except] 34)) w.heap.size 34 2 RulV.cells (by simp)
  simpa using this

set_option maxHeartbeats 4000000 in
theorem more_calls (A : Option Addr) (c : Nat) (l : List RulV) (x : RulV) (A2 : Option Addr) (c2 : Nat) (ls : List ByteArray) (w : World) (h : RowAt RulV.cells 2 w A l) (hok : ∀ x ∈ l, x.ok w) (hx : x.ok w) (h2 : RowAt strC 1 w A2 ls) (hlc : l.length ≤ c) (hcm : c ≤ maxLen) (hlc2 : ls.length ≤ c2) (hcm2 : c2 ≤ maxLen) :
    Calls Try.prog 6 #[.slice A l.length c, .agg #[.slice x.A x.r.labels.length x.c, .bool x.r.except], .slice A2 ls.length c2] w fun e w' => e = .returned (.bool true) ∧ Below w.heap.size w w' := by
  have F1 := Lib.hid (fun w' (hb : Below w.heap.size w w') => few_rules A c l w' (h.keep hb) (fun x hx => (hok x hx).keep hb) hlc hcm)
  have F3 := Lib.hid (fun w' (hb : Below w.heap.size w w') => few_rules (some ⟨w'.heap.size, 0, none⟩) 1 [x] _ (one_rule (hx.keep hb)).1 (one_rule (hx.keep hb)).2 (Nat.le_refl _) (by simp [maxLen]))
  have F2 := Lib.hid (fun w' (hb : Below w.heap.size w w') => few_strs A2 c2 ls w' (h2.keep hb) hlc2 hcm2)
  have HN := Lib.hid (fun w' (hb : Below w.heap.size w w') => new_calls A c l w' 1 (h.keep hb) (fun x hx => (hok x hx).keep hb) hlc hcm)
  have HP := Lib.hid (fun w' (hb : Below w.heap.size w w') => plain_calls A c l A2 c2 ls w' (h.keep hb) (fun x hx => (hok x hx).keep hb) (h2.keep hb) hlc hcm hlc2 hcm2)
  have HO := Lib.hid (fun w' (hb : Below w.heap.size w w') => of_calls x A2 c2 ls w' (hx.keep hb) (h2.keep hb) hlc2 hcm2)
  have HO2 := Lib.hid (fun w' (hb : Below w.heap.size w w') (y : RulV) (hy : y ∈ l) => of_calls y A2 c2 ls w' ((hok y hy).keep hb) (h2.keep hb) hlc2 hcm2)
  have H := Lib.hid h
  have HOK := Lib.hid hok
  have HX := Lib.hid hx
  have H2 := Lib.hid h2
  have hbx := Blk.new w 34 #[.slice x.A x.r.labels.length x.c, .bool x.r.except]
  have HBX := Lib.hid hbx
  have HB0 := Lib.hid ((Below.refl _ w).alloc (Nat.le_refl _) (.cells #[.slice x.A x.r.labels.length x.c, .bool x.r.except] 34))
  clear h hok h2 hx hbx
  cases hf1 : fewR l
  · rw [hf1] at F1
    go_enter Try.func6, Try.ntmps6
    go_wp2_with (first
      | (go_at_call 8; refine (awake_calls _).mono ?_; rintro e w1 ⟨rfl, hb1⟩; have HB1 := Lib.hid (belowOn HB0.out HB0.out.size hb1); have r1 := rule_box (HBX.out.keep hb1); have r10 := r1.1; have r11 := r1.2; clear r1 hb1)
      | (go_at_call 9; refine (F1.out _ HB1.out).mono ?_; rintro e w' ⟨rfl, rfl⟩))
    go_ret
    exact ⟨rfl, HB1.out⟩
  · rw [hf1] at F1
    cases hf3 : fewR [x]
    · rw [hf3] at F3
      go_enter Try.func6, Try.ntmps6
      go_wp2_with (first
        | (go_at_call 8; refine (awake_calls _).mono ?_; rintro e w1 ⟨rfl, hb1⟩; have HB1 := Lib.hid (belowOn HB0.out HB0.out.size hb1); have r1 := rule_box (HBX.out.keep hb1); have r10 := r1.1; have r11 := r1.2; clear r1 hb1)
        | (go_at_call_of 9 (Value.slice A l.length c); refine (F1.out _ HB1.out).mono ?_; rintro e w' ⟨rfl, rfl⟩)
        | (go_at_call 9; refine (F3.out _ HB1.out).mono ?_; rintro e w' ⟨rfl, rfl⟩))
      go_ret
      exact ⟨rfl, HB1.out.alloc HB1.out.size _⟩
    · rw [hf3] at F3
      cases hf2 : fewS ls
      · rw [hf2] at F2
        go_enter Try.func6, Try.ntmps6
        go_wp2_with (first
            | (go_at_call 8; refine (awake_calls _).mono ?_; rintro e w1 ⟨rfl, hb1⟩; have HB1 := Lib.hid (belowOn HB0.out HB0.out.size hb1); have r1 := rule_box (HBX.out.keep hb1); have r10 := r1.1; have r11 := r1.2; have HBX1 := Lib.hid (HBX.out.keep hb1); clear r1 hb1)
            | (go_at_call_of 9 (Value.slice A l.length c); refine (F1.out _ HB1.out).mono ?_; rintro e w' ⟨rfl, rfl⟩)
            | (go_at_call 9; refine (F3.out _ HB1.out).mono ?_; rintro e w' ⟨rfl, rfl⟩)
            | (go_at_call 10; refine (F2.out _ (HB1.out.alloc HB1.out.size _)).mono ?_; rintro e w' ⟨rfl, rfl⟩))
        go_ret
        exact ⟨rfl, HB1.out.alloc HB1.out.size _⟩
      · rw [hf2] at F2
        have hl20 := fewS_len hf2
        have hr20 := fewR_len hf1
        obtain ⟨na, hna⟩ : ∃ na, suffixR (l.map (·.r)) ls = na := ⟨_, rfl⟩
        obtain ⟨nb, hnb⟩ : ∃ nb, suffixR (l.map (·.r) ++ [x.r]) ls = nb := ⟨_, rfl⟩
        have HNA := Lib.hid hna
        have HNB := Lib.hid hnb
        clear hna hnb hf1 hf2 hf3
        go_enter Try.func6, Try.ntmps6
        go_upto_region 5 with (first
            | (go_at_call 8; refine (awake_calls _).mono ?_; rintro e w1 ⟨rfl, hb1⟩; have HB1 := Lib.hid (belowOn HB0.out HB0.out.size hb1); have r1 := rule_box (HBX.out.keep hb1); have r10 := r1.1; have r11 := r1.2; have HBX1 := Lib.hid (HBX.out.keep hb1); clear r1 hb1)
            | (go_at_call_of 9 (Value.slice A l.length c); refine (F1.out _ HB1.out).mono ?_; rintro e w' ⟨rfl, rfl⟩)
            | (go_at_call 9; refine (F3.out _ HB1.out).mono ?_; rintro e w' ⟨rfl, rfl⟩)
            | (go_at_call 10; refine (F2.out _ (HB1.out.alloc HB1.out.size _)).mono ?_; rintro e w' ⟨rfl, rfl⟩)
            | (go_at_call 11; refine (HN.out _ (HB1.out.alloc HB1.out.size _)).mono ?_; rintro e w2 ⟨⟨ta, aa, rfl, ht⟩, hb⟩; have HTA := Lib.hid ht; have HB2 := Lib.hid (belowOn (HB1.out.alloc HB1.out.size _) (Nat.le_trans HB1.out.size (by simp)) hb); have HBX2 := Lib.hid ((HBX1.out.alloc _).keep hb); clear ht hb)
            | (go_at_call 12; refine (suffix_calls HTA.out A2 c2 ls (H2.out.keep HB2.out) hlc2 hcm2 (by omega)).mono ?_; rw [HNA.out]; rintro e w3 ⟨rfl, hb⟩; have r1 := rule_box (HBX2.out.keep hb); have r30 := r1.1; have r31 := r1.2; have HBX3 := Lib.hid (HBX2.out.keep hb); have HB3 := Lib.hid (belowOn HB2.out HB2.out.size hb); clear r1 hb))
        clear r10 r11
        have hl20c : (ls.length : Int) ≤ 20 := by omega
        have HS3 : Hid (MSt w w3 w3 x) := Lib.hid ⟨HB3.out, HBX3.out, Nat.le_refl _, HBX3.out.lt⟩
        go_cut [9] from 32 to 40 (fun s9 wx => Hid (s9 = .int .i64 nb ∧ MSt w w3 wx x))
        case first =>
          go_region_held3 (fun w' => w'.cell? ⟨w.heap.size, 0, none⟩ = some (.slice x.A x.r.labels.length x.c) ∧ w'.cell? ⟨w.heap.size, 1, none⟩ = some (.bool x.r.except))
            ((refine rule_box (MSt.bx (w3 := w3) ?_); repeat (with_reducible (first | exact HS7.out | exact HS6.out | exact HS5.out | exact HS4.out | exact HS3.out | apply MSt.alloc | apply MSt.drew))))
            (first
              | (refine step_appendR RulV.cells 2 rul_len (by omega) rul_one rfl (.tmp 32) (.tmp 33) _ 34 _ 32 rfl Try.underlying22 rul_info rfl (by omega) w3.heap.size (.slice (some ⟨w3.heap.size, 0, none⟩) 0 0) [] A c l rfl rfl (by first | exact OwnR.fresh w3 w3.heap.size 34 2 RulV.cells (Nat.le_refl _) | exact (OwnR.fresh w3 w3.heap.size 34 2 RulV.cells (Nat.le_refl _)).drew) (H.out.keep (MSt.be (by first | exact HS3.out.alloc (.cells #[] 34) | exact (HS3.out.alloc (.cells #[] 34)).drew))) (by simp; omega) (MSt.sz (by first | exact HS3.out.alloc (.cells #[] 34) | exact (HS3.out.alloc (.cells #[] 34)).drew)) ?_; intro v4 w4 ho4 hg4 hat4; rw [List.nil_append] at ho4; have HO4 := Lib.hid ho4; have HS4 := Lib.hid (MSt.grown (by first | exact HS3.out.alloc (.cells #[] 34) | exact (HS3.out.alloc (.cells #[] 34)).drew) hg4 (fun k e => by simp [Value.ownBlock] at e; omega)); clear ho4 hg4 hat4)
              | (refine step_appendR RulV.cells 2 rul_len (by omega) rul_one rfl (.tmp 32) (.tmp 33) _ 34 _ 32 rfl Try.underlying22 rul_info rfl (by omega) w3.heap.size (.slice (some ⟨w3.heap.size, 0, none⟩) 0 0) [] A c l rfl rfl (by first | exact (float_two w3 x).1 | exact ((float_two w3 x).1).drew) (H.out.keep (MSt.be (by first | exact (HS3.out.alloc (.cells #[] 34)).alloc (.cells #[.slice x.A x.r.labels.length x.c, .bool x.r.except] 34) | exact ((HS3.out.alloc (.cells #[] 34)).alloc (.cells #[.slice x.A x.r.labels.length x.c, .bool x.r.except] 34)).drew))) (by simp; omega) (MSt.sz (by first | exact (HS3.out.alloc (.cells #[] 34)).alloc (.cells #[.slice x.A x.r.labels.length x.c, .bool x.r.except] 34) | exact ((HS3.out.alloc (.cells #[] 34)).alloc (.cells #[.slice x.A x.r.labels.length x.c, .bool x.r.except] 34)).drew)) ?_; intro v4 w4 ho4 hg4 hat4; rw [List.nil_append] at ho4; have HO4 := Lib.hid ho4; have HS4 := Lib.hid (MSt.grown (by first | exact (HS3.out.alloc (.cells #[] 34)).alloc (.cells #[.slice x.A x.r.labels.length x.c, .bool x.r.except] 34) | exact ((HS3.out.alloc (.cells #[] 34)).alloc (.cells #[.slice x.A x.r.labels.length x.c, .bool x.r.except] 34)).drew) hg4 (fun k e => by simp [Value.ownBlock] at e; omega)); have HXB4 := Lib.hid (Blk.grown (by first | exact (float_two w3 x).2 | exact ((float_two w3 x).2).drew) hg4 (by simp [Value.ownBlock])); clear ho4 hg4 hat4)
              | (refine step_appendR RulV.cells 2 rul_len (by omega) rul_one rfl (.tmp 32) (.tmp 33) _ 34 _ 32 rfl Try.underlying22 rul_info rfl (by omega) w3.heap.size (.slice (some ⟨w3.heap.size + 1, 0, none⟩) 0 0) [] A c l rfl rfl (by first | exact (float_three w3 x).1 | exact ((float_three w3 x).1).drew) (H.out.keep (MSt.be (by first | exact (HS3.out.alloc (.cells #[.slice x.A x.r.labels.length x.c, .bool x.r.except] 34)).alloc (.cells #[] 34) | exact ((HS3.out.alloc (.cells #[.slice x.A x.r.labels.length x.c, .bool x.r.except] 34)).alloc (.cells #[] 34)).drew))) (by simp; omega) (MSt.sz (by first | exact (HS3.out.alloc (.cells #[.slice x.A x.r.labels.length x.c, .bool x.r.except] 34)).alloc (.cells #[] 34) | exact ((HS3.out.alloc (.cells #[.slice x.A x.r.labels.length x.c, .bool x.r.except] 34)).alloc (.cells #[] 34)).drew)) ?_; intro v4 w4 ho4 hg4 hat4; rw [List.nil_append] at ho4; have HO4 := Lib.hid ho4; have HS4 := Lib.hid (MSt.grown (by first | exact (HS3.out.alloc (.cells #[.slice x.A x.r.labels.length x.c, .bool x.r.except] 34)).alloc (.cells #[] 34) | exact ((HS3.out.alloc (.cells #[.slice x.A x.r.labels.length x.c, .bool x.r.except] 34)).alloc (.cells #[] 34)).drew) hg4 (fun k e => by simp [Value.ownBlock] at e; omega)); have HXB4 := Lib.hid (Blk.grown (by first | exact (float_three w3 x).2 | exact ((float_three w3 x).2).drew) hg4 (by simp [Value.ownBlock])); clear ho4 hg4 hat4)
              | (obtain ⟨A4, c4, hv4, hr4, hl4, hm4, hb4⟩ := HO4.out.row rul_len; clear hv4 hr4 hl4 hm4 hb4; refine step_appendR RulV.cells 2 rul_len (by omega) rul_one rfl (.tmp 34) (.tmp 36) _ 34 _ 32 rfl Try.underlying22 rul_info rfl (by omega) w3.heap.size v4 l _ 1 [x] rfl rfl (by first | exact HO4.out.below ((Below.refl _ _).alloc (Nat.le_refl _) (.cells #[.slice x.A x.r.labels.length x.c, .bool x.r.except] 34)) | exact (HO4.out.below ((Below.refl _ _).alloc (Nat.le_refl _) (.cells #[.slice x.A x.r.labels.length x.c, .bool x.r.except] 34))).drew) (by first | exact rowAt_blk (f := RulV.cells) (fun _ => rfl) (Blk.new w4 _ #[.slice x.A x.r.labels.length x.c, .bool x.r.except]) rfl | exact rowAt_blk (f := RulV.cells) (fun _ => rfl) (Blk.new w4 _ #[.slice x.A x.r.labels.length x.c, .bool x.r.except]).drew rfl) (by simp; omega) (MSt.sz (by first | exact HS4.out.alloc (.cells #[.slice x.A x.r.labels.length x.c, .bool x.r.except] 34) | exact (HS4.out.alloc (.cells #[.slice x.A x.r.labels.length x.c, .bool x.r.except] 34)).drew)) ?_; intro v5 w5 ho5 hg5 hat5; have HS5 := Lib.hid (MSt.grown (by first | exact HS4.out.alloc (.cells #[.slice x.A x.r.labels.length x.c, .bool x.r.except] 34) | exact (HS4.out.alloc (.cells #[.slice x.A x.r.labels.length x.c, .bool x.r.except] 34)).drew) hg5 (fun k e => (row_blk HO4.out e).1)); obtain ⟨A5, c5, rfl, hr5, hl5, hm5, hb5⟩ := ho5.row rul_len; have HN5 := Lib.hid (new_calls A5 c5 (l ++ [x]) w5 1 hr5 (fun y hy => (by rcases List.mem_append.1 hy with h | h; exact HOK.out y h; simp only [List.mem_singleton] at h; rw [h]; exact HX.out : y.ok w).keep HS5.out.be) hl5 hm5); rw [show (l ++ [x]).length = l.length + 1 by simp, show (l ++ [x]).map (fun x => x.r) = l.map (fun x => x.r) ++ [x.r] by simp] at HN5; clear ho5 hg5 hat5 hr5 hl5 hm5 hb5)
              | (obtain ⟨A4, c4, hv4, hr4, hl4, hm4, hb4⟩ := HO4.out.row rul_len; clear hv4 hr4 hl4 hm4 hb4; refine step_appendR RulV.cells 2 rul_len (by omega) rul_one rfl (.tmp 34) (.tmp 36) _ 34 _ 32 rfl Try.underlying22 rul_info rfl (by omega) w3.heap.size v4 l _ 1 [x] rfl rfl (by first | exact HO4.out | exact (HO4.out).drew) (by first | exact rowAt_blk (f := RulV.cells) (fun _ => rfl) HXB4.out rfl | exact rowAt_blk (f := RulV.cells) (fun _ => rfl) HXB4.out.drew rfl) (by simp; omega) (MSt.sz (by first | exact HS4.out | exact (HS4.out).drew)) ?_; intro v5 w5 ho5 hg5 hat5; have HS5 := Lib.hid (MSt.grown (by first | exact HS4.out | exact (HS4.out).drew) hg5 (fun k e => (row_blk HO4.out e).1)); obtain ⟨A5, c5, rfl, hr5, hl5, hm5, hb5⟩ := ho5.row rul_len; have HN5 := Lib.hid (new_calls A5 c5 (l ++ [x]) w5 1 hr5 (fun y hy => (by rcases List.mem_append.1 hy with h | h; exact HOK.out y h; simp only [List.mem_singleton] at h; rw [h]; exact HX.out : y.ok w).keep HS5.out.be) hl5 hm5); rw [show (l ++ [x]).length = l.length + 1 by simp, show (l ++ [x]).map (fun x => x.r) = l.map (fun x => x.r) ++ [x.r] by simp] at HN5; clear ho5 hg5 hat5 hr5 hl5 hm5 hb5)
              | (go_at_call 11; with_reducible refine HN5.out.mono ?_; rintro e w6 ⟨⟨tb, ab, rfl, ht⟩, hb⟩; have HTB := Lib.hid ht; have HS6 := Lib.hid (HS5.out.keep hb); clear ht hb)
              | (go_at_call 12; refine (suffix_calls HTB.out A2 c2 ls (H2.out.keep HS6.out.be) hlc2 hcm2 (by omega)).mono ?_; rw [HNB.out]; rintro e w7 ⟨rfl, hb⟩; have HS7 := Lib.hid (HS6.out.keep hb); clear hb))
          all_goals (
            go_wp2_with fail
            go_meet
            exact Lib.hid ⟨rfl, HS7.out⟩)
        case rest =>
          obtain ⟨rfl, hS⟩ := hcut.out
          clear hcut HBX3 HB3 HS3 r30 r31
          have r1 := rule_box hS.bx
          have r80 := r1.1
          have r81 := r1.2
          have HS := Lib.hid hS
          clear r1 hS
          cases ho : ofL x.r.labels ls
          · rw [ho] at HO
            have hab := suffix_off (l.map (·.r)) x.r ls ho
            rw [HNB.out, HNA.out] at hab
            subst hab
            go_wp2_with (go_at_call 15; refine (HO.out _ HS.out.be).mono ?_; rintro e w8 ⟨rfl, hb⟩; have HS8 := Lib.hid (HS.out.keep hb); clear hb)
            go_ret
            exact ⟨rfl, HS8.out.be⟩
          · rw [ho] at HO
            have HOT := Lib.hid ho
            clear ho
            go_wp2_with (go_at_call 15; refine (HO.out _ HS.out.be).mono ?_; rintro e w8 ⟨rfl, hb⟩; have HS8 := Lib.hid (HS.out.keep hb); clear hb)
            go_loopg [10, 11] l.length (fun n v10 v11 w' => Hid (∃ (i : Nat), v11 = .int .i64 i ∧ i ≤ l.length ∧ n = l.length - i ∧ v10 = .bool (exceptOf ((l.take i).map (·.r)) ls) ∧ MSt w w3 w' x))
            case atStart => exact ⟨0, rfl, Nat.zero_le _, rfl, rfl, HS8.out⟩
            case round =>
              obtain ⟨i, rfl, hi, hm, rfl, hS⟩ := hrel.out
              clear hrel HS8
              have HM := Lib.hid hm
              have HSL := Lib.hid hS
              clear hm hS
              by_cases hlt : i < l.length
              · obtain ⟨y, hy⟩ : ∃ y, l[i]? = some y := ⟨l[i]'hlt, List.getElem?_eq_getElem hlt⟩
                obtain ⟨b, off, rfl, c0, c1⟩ := rul_at (H.out.keep HSL.out.be) hy
                have het := except_take (ls := ls) hy
                have HOY := Lib.hid (HO2.out wr HSL.out.be y (List.mem_of_getElem? hy))
                have HY := Lib.hid hy
                have HET := Lib.hid het
                clear hy het
                cases hfl : exceptOf ((l.take i).map (·.r)) ls
                · rw [hfl] at HET
                  cases hye : y.r.except
                  · rw [hye] at c1 HET HOY
                    go_wp2
                    go_roundg (l.length - (i + 1))
                    case measure => have := HM.out; omega
                    case rel => exact ⟨i + 1, (by first | exact wrap_up _ _ _ hlt hlc hcm | simp), by omega, rfl, by rw [HET.out]; rfl, HSL.out⟩
                  · rw [hye] at c1 HET HOY
                    go_wp2_with (go_at_call 15; refine HOY.out.mono ?_; rintro e w9 ⟨rfl, hb⟩; have HS9 := Lib.hid (HSL.out.keep hb); clear hb)
                    go_roundg (l.length - (i + 1))
                    case measure => have := HM.out; omega
                    case rel => exact ⟨i + 1, (by first | exact wrap_up _ _ _ hlt hlc hcm | simp), by omega, rfl, by rw [HET.out]; simp, HS9.out⟩
                · rw [hfl] at HET
                  go_wp2
                  go_roundg (l.length - (i + 1))
                  case measure => have := HM.out; omega
                  case rel => exact ⟨i + 1, (by first | exact wrap_up _ _ _ hlt hlc hcm | simp), by omega, rfl, by rw [HET.out]; simp, HSL.out⟩
              · have htl : l.take i = l := List.take_of_length_le (by omega)
                rw [htl]
                have r1 := rule_box HSL.out.bx
                have r90 := r1.1
                have r91 := r1.2
                clear r1
                cases hfl : exceptOf (l.map (·.r)) ls
                · cases hex : x.r.except
                  · rw [hex] at r91
                    have hnb' := suffix_more _ _ _ hfl hex HOT.out
                    rw [HNB.out] at hnb'
                    have HPL := Lib.hid (HP.out wr.drew HSL.out.be.drew)
                    generalize longestR ls false (l.map (·.r)) (-1) = pl at hnb' HPL
                    subst hnb'
                    clear htl
                    go_wp2_with fail
                    go_region_held3 (fun w' => w'.cell? ⟨w.heap.size, 0, none⟩ = some (.slice x.A x.r.labels.length x.c) ∧ w'.cell? ⟨w.heap.size, 1, none⟩ = some (.bool false))
                      (first | with_reducible exact ⟨r90, r91⟩ | with_reducible exact ⟨r100, r101⟩ | go_keep)
                      (first
                        | (go_at_call 16; with_reducible refine HPL.out.mono ?_; rintro e w10 ⟨rfl, hb⟩; have HS10 := Lib.hid (HSL.out.drew.keep hb); have r1 := rule_box (HSL.out.drew.bx.keep hb); rw [hex] at r1; have r100 := r1.1; have r101 := r1.2; clear r1 hb))
                    go_wp2
                    go_ret
                    exact ⟨by simp, HS10.out.be⟩
                  · rw [hex] at r91
                    clear htl
                    go_wp2_with fail
                    go_quiet (fail)
                    go_wp2
                    go_ret
                    exact ⟨rfl, HSL.out.be.drewN _⟩
                · cases hex : x.r.except
                  · rw [hex] at r91
                    have hnb' := suffix_except _ _ ls hfl hex
                    rw [HNB.out, HNA.out] at hnb'
                    subst hnb'
                    clear htl
                    go_wp2
                    go_ret
                    exact ⟨rfl, HSL.out.be⟩
                  · rw [hex] at r91
                    clear htl
                    go_wp2_with fail
                    go_quiet (fail)
                    go_wp2
                    go_ret
                    exact ⟨rfl, HSL.out.be.drewN _⟩
end Go.Proofs.Ytmckggnjcdpaiaa
