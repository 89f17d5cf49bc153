/- TableNew, walked: a table for so many keys, in stripes, of generations, or what forbids it. -/
import Derived.Test.YtlpjjbkpoaohnaaDoorTabAwake
import Derived.Test.YtlpjjbkpoaohnaaDoorSlotsRef2
import Derived.Test.YtlpjjbkpoaohnaaDoorErrCode
set_option linter.unusedVariables false
set_option linter.unusedSimpArgs false
set_option maxRecDepth 100000
namespace Go.Proofs.YtlpjjbkpoaohnaaDoor
open Go.RowKit Slots

theorem ref_new_bad3 (many : Int) (last : Int) (h : many < 1 ∨ 4096 < many ∨ last = 0) (w : World) :
    Calls Tryd.prog 26 #[.int .i64 many, .int .u64 last] w fun e w' => (∃ A0 A1 A2 c0 c1 c2, e = .returned (.tuple #[.agg #[.slice A0 0 c0, .slice A1 0 c1, .slice A2 0 c2, .int .u64 0], .int .i64 1])) ∧ Below w.heap.size w w' := by
  have hf : PRef.gatepostref19_New.f 1 many last = some ([], [], [], 0, 1) := by
    unfold PRef.gatepostref19_New.f
    by_cases h1 : many < 1
    · rw [if_pos h1]; rfl
    · rw [if_neg h1]
      by_cases h2 : many > 4096
      · rw [if_pos h2]; rfl
      · rw [if_neg h2, show (last == 0) = true by simp; omega]; rfl
  refine (PRef.gatepostref19_New.calls 1 many last _ _ _ _ _ w hf).mono ?_
  rintro e w' ⟨v0, v1, v2, rfl, r0, r1, r2, hb⟩
  obtain ⟨A0, c0, rfl, _⟩ := (OwnI.ofR r0).row
  obtain ⟨A1, c1, rfl, _⟩ := (OwnI.ofR r1).row
  obtain ⟨A2, c2, rfl, _⟩ := (OwnI.ofR r2).row
  exact ⟨⟨A0, A1, A2, c0, c1, c2, rfl⟩, hb⟩

def zeroTb : Array Value := #[.slice none 0 0, .slice none 0 0, .slice none 0 0, .int .u64 0, .slice none 0 0, .int .i64 0]
/-- The result's box written whole. -/
theorem tb_set {w0 w : World} {g : Nat} {cs : Array Value} (h : Blk w g 35 cs) (hs : cs.size = 6) (hb : Below w0.heap.size w0 w) (hg : w0.heap.size ≤ g) (v0 v1 v2 v3 v4 v5 : Value) :
    Blk ((((((w.setCell ⟨g, 0, none⟩ v0).setCell ⟨g, 1, none⟩ v1).setCell ⟨g, 2, none⟩ v2).setCell ⟨g, 3, none⟩ v3).setCell ⟨g, 4, none⟩ v4).setCell ⟨g, 5, none⟩ v5) g 35 #[v0, v1, v2, v3, v4, v5] ∧ Below w0.heap.size w0 ((((((w.setCell ⟨g, 0, none⟩ v0).setCell ⟨g, 1, none⟩ v1).setCell ⟨g, 2, none⟩ v2).setCell ⟨g, 3, none⟩ v3).setCell ⟨g, 4, none⟩ v4).setCell ⟨g, 5, none⟩ v5) := by
  obtain ⟨l⟩ := cs
  obtain ⟨a0, a1, a2, a3, a4, a5, rfl⟩ : ∃ a0 a1 a2 a3 a4 a5, l = [a0, a1, a2, a3, a4, a5] := by
    match l, hs with
    | [a0, a1, a2, a3, a4, a5], _ => exact ⟨_, _, _, _, _, _, rfl⟩
  exact ⟨(((((h.set_ 0 v0).set_ 1 v1).set_ 2 v2).set_ 3 v3).set_ 4 v4).set_ 5 v5, (((((hb.setCell (p := ⟨g, 0, none⟩) hg v0).setCell (p := ⟨g, 1, none⟩) hg v1).setCell (p := ⟨g, 2, none⟩) hg v2).setCell (p := ⟨g, 3, none⟩) hg v3).setCell (p := ⟨g, 4, none⟩) hg v4).setCell (p := ⟨g, 5, none⟩) hg v5⟩

theorem tref_new_bad (room n last : Int) (w : World) (h : (room < 1 ∨ 4096 < room ∨ last = 0) ∨ ((1 ≤ room ∧ room ≤ 4096 ∧ 1 ≤ last) ∧ (n < 1 ∨ 64 < n))) :
    Calls Tryd.prog 8 #[.int .i64 room, .int .i64 n, .int .u64 last] w fun e w' => e = .returned (.tuple #[.agg zeroTb, .int .i64 1]) ∧ Below w.heap.size w w' := by
  have HB0 := Lib.hid (Blk.new w 35 zeroTb)
  have H0 := Lib.hid ((Below.refl w.heap.size w).alloc (Nat.le_refl _) (.cells zeroTb 35))
  rcases h with h | ⟨⟨h1, h2, h3⟩, h4⟩
  · have HC := Lib.hid (fun W => ref_new_bad3 room last h W)
    clear h
    go_enter Tryd.func8, Tryd.ntmps8
    go_wp2_with fail
    refine (HC.out _).mono ?_
    rintro e w1 ⟨⟨A0, A1, A2, c0, c1, c2, rfl⟩, hb⟩
    have HB := Lib.hid ((HB0.out.keep hb).alloc (.cells #[.slice A0 0 c0, .slice A1 0 c1, .slice A2 0 c2, .int .u64 0] 32))
    have HW := Lib.hid ((belowOn H0.out H0.out.size hb).alloc (belowOn H0.out H0.out.size hb).size (.cells #[.slice A0 0 c0, .slice A1 0 c1, .slice A2 0 c2, .int .u64 0] 32))
    clear hb HC HB0 H0
    go_upto_region 2 with fail
    generalize w1.alloc (.cells #[.slice A0 0 c0, .slice A1 0 c1, .slice A2 0 c2, .int .u64 0] 32) = w2 at HB HW ⊢
    have e0 := HB.out.cell 0
    have e1 := HB.out.cell 1
    have e2 := HB.out.cell 2
    have e3 := HB.out.cell 3
    have e4 := HB.out.cell 4
    have e5 := HB.out.cell 5
    have fe := HB.out.frozen
    simp only [zeroTb, List.getElem?_toArray, List.getElem?_cons_zero, List.getElem?_cons_succ] at e0 e1 e2 e3 e4 e5
    go_wp2_with fail
    have HR := tb_set HB.out rfl HW.out (Nat.le_refl _) (.slice none 0 0) (.slice none 0 0) (.slice none 0 0) (.int .u64 0) (.slice none 0 0) (.int .i64 0)
    refine bodyPost_ret (results_cell_row2 rfl _ _ w.heap.size 35 _ (0, 0) _ rfl HR.1 Tryd.underlying35 rfl (by kernel_rfl)) rfl ?_
    exact ⟨rfl, HR.2⟩
  · obtain ⟨rm, rfl⟩ := Int.eq_ofNat_of_zero_le (show 0 ≤ room by omega)
    have HC := Lib.hid (fun W => ref_new_ok rm last (by omega) (by omega) (by omega) W)
    clear h1 h2 h3
    by_cases h5 : n < 1
    · clear h4
      go_enter Tryd.func8, Tryd.ntmps8
      go_wp2_with fail
      refine (HC.out _).mono ?_
      rintro e w1 ⟨⟨v, rfl, hv⟩, hb⟩
      obtain ⟨A0, A1, A2, c0, c1, c2, rfl, _⟩ := hv
      generalize (newRf rm last).gens.length = n0
      generalize (newRf rm last).counts.length = n1
      generalize (newRf rm last).free.length = n2
      generalize (newRf rm last).last = n3
      have HB := Lib.hid ((HB0.out.keep hb).alloc (.cells #[.slice A0 n0 c0, .slice A1 n1 c1, .slice A2 n2 c2, .int .u64 n3] 32))
      have HW := Lib.hid ((belowOn H0.out H0.out.size hb).alloc (belowOn H0.out H0.out.size hb).size (.cells #[.slice A0 n0 c0, .slice A1 n1 c1, .slice A2 n2 c2, .int .u64 n3] 32))
      clear hb HC HB0 H0
      go_upto_region 2 with fail
      generalize w1.alloc (.cells #[.slice A0 n0 c0, .slice A1 n1 c1, .slice A2 n2 c2, .int .u64 n3] 32) = w2 at HB HW ⊢
      have e0 := HB.out.cell 0
      have e1 := HB.out.cell 1
      have e2 := HB.out.cell 2
      have e3 := HB.out.cell 3
      have e4 := HB.out.cell 4
      have e5 := HB.out.cell 5
      have fe := HB.out.frozen
      simp only [zeroTb, List.getElem?_toArray, List.getElem?_cons_zero, List.getElem?_cons_succ] at e0 e1 e2 e3 e4 e5
      go_wp2_with fail
      have HR := tb_set HB.out rfl HW.out (Nat.le_refl _) (.slice none 0 0) (.slice none 0 0) (.slice none 0 0) (.int .u64 0) (.slice none 0 0) (.int .i64 0)
      refine bodyPost_ret (results_cell_row2 rfl _ _ w.heap.size 35 _ (0, 0) _ rfl HR.1 Tryd.underlying35 rfl (by kernel_rfl)) rfl ?_
      exact ⟨rfl, HR.2⟩
    · have h6 : 64 < n := by omega
      clear h4
      go_enter Tryd.func8, Tryd.ntmps8
      go_wp2_with fail
      refine (HC.out _).mono ?_
      rintro e w1 ⟨⟨v, rfl, hv⟩, hb⟩
      obtain ⟨A0, A1, A2, c0, c1, c2, rfl, _⟩ := hv
      generalize (newRf rm last).gens.length = n0
      generalize (newRf rm last).counts.length = n1
      generalize (newRf rm last).free.length = n2
      generalize (newRf rm last).last = n3
      have HB := Lib.hid ((HB0.out.keep hb).alloc (.cells #[.slice A0 n0 c0, .slice A1 n1 c1, .slice A2 n2 c2, .int .u64 n3] 32))
      have HW := Lib.hid ((belowOn H0.out H0.out.size hb).alloc (belowOn H0.out H0.out.size hb).size (.cells #[.slice A0 n0 c0, .slice A1 n1 c1, .slice A2 n2 c2, .int .u64 n3] 32))
      clear hb HC HB0 H0
      go_upto_region 2 with fail
      generalize w1.alloc (.cells #[.slice A0 n0 c0, .slice A1 n1 c1, .slice A2 n2 c2, .int .u64 n3] 32) = w2 at HB HW ⊢
      have e0 := HB.out.cell 0
      have e1 := HB.out.cell 1
      have e2 := HB.out.cell 2
      have e3 := HB.out.cell 3
      have e4 := HB.out.cell 4
      have e5 := HB.out.cell 5
      have fe := HB.out.frozen
      simp only [zeroTb, List.getElem?_toArray, List.getElem?_cons_zero, List.getElem?_cons_succ] at e0 e1 e2 e3 e4 e5
      go_wp2_with fail
      have HR := tb_set HB.out rfl HW.out (Nat.le_refl _) (.slice none 0 0) (.slice none 0 0) (.slice none 0 0) (.int .u64 0) (.slice none 0 0) (.int .i64 0)
      refine bodyPost_ret (results_cell_row2 rfl _ _ w.heap.size 35 _ (0, 0) _ rfl HR.1 Tryd.underlying35 rfl (by kernel_rfl)) rfl ?_
      exact ⟨rfl, HR.2⟩
theorem rfv_tb {w : World} {A0 A1 A2 : Option Addr} {c0 c1 c2 : Nat} {x : Rf} (h : RfV w A0 A1 A2 c0 c1 c2 x) {g : Nat} {cs : Array Value} (hg : Blk w g 35 cs) (hs : cs.size = 6) (v0 v1 v2 v3 v4 v5 : Value) :
    RfV ((((((w.setCell ⟨g, 0, none⟩ v0).setCell ⟨g, 1, none⟩ v1).setCell ⟨g, 2, none⟩ v2).setCell ⟨g, 3, none⟩ v3).setCell ⟨g, 4, none⟩ v4).setCell ⟨g, 5, none⟩ v5) A0 A1 A2 c0 c1 c2 x := by
  have step : ∀ {W : World} {ds : Array Value} (i : Nat) (u : Value), RfV W A0 A1 A2 c0 c1 c2 x → Blk W g 35 ds → RfV (W.setCell ⟨g, i, none⟩ u) A0 A1 A2 c0 c1 c2 x ∧ Blk (W.setCell ⟨g, i, none⟩ u) g 35 (ds.setIfInBounds i u) := fun i u h hg =>
    ⟨⟨h.g.farT hg (by decide) i u, h.c.farT hg (by decide) i u, h.f.farT hg (by decide) i u, h.cg, h.cc, h.cf, h.lg, h.lc, h.lf⟩, hg.set_ i u⟩
  obtain ⟨h0, g0⟩ := step 0 v0 h hg
  obtain ⟨h1, g1⟩ := step 1 v1 h0 g0
  obtain ⟨h2, g2⟩ := step 2 v2 h1 g1
  obtain ⟨h3, g3⟩ := step 3 v3 h2 g2
  obtain ⟨h4, g4⟩ := step 4 v4 h3 g3
  exact (step 5 v5 h4 g4).1
theorem tref_new_ok (room n : Nat) (last : Int) (w : World) (h1 : 1 ≤ room) (h2 : room ≤ 4096) (h3 : 1 ≤ last) (h4 : 1 ≤ n) (h5 : n ≤ 64) :
    Calls Tryd.prog 8 #[.int .i64 room, .int .i64 n, .int .u64 last] w fun e w' => (∃ A0 A1 A2 c0 c1 c2, e = .returned (.tuple #[.agg #[.slice A0 (newRf room last).gens.length c0, .slice A1 (newRf room last).counts.length c1, .slice A2 (newRf room last).free.length c2, .int .u64 last, .slice none 0 0, .int .i64 n], .int .i64 0]) ∧ RfV w' A0 A1 A2 c0 c1 c2 (newRf room last)) ∧ Below w.heap.size w w' := by
  have HB0 := Lib.hid (Blk.new w 35 zeroTb)
  have H0 := Lib.hid ((Below.refl w.heap.size w).alloc (Nat.le_refl _) (.cells zeroTb 35))
  have HC := Lib.hid (fun W => ref_new_ok room last h1 h2 (by omega) W)
  have e1 : decide ((n : Int) < 1) = false := by simp; omega
  have e2 : decide ((64 : Int) < (n : Int)) = false := by simp; omega
  clear h1 h2 h3
  go_enter Tryd.func8, Tryd.ntmps8
  go_wp2_with fail
  refine (HC.out _).mono ?_
  rintro e w1 ⟨⟨v, rfl, hv⟩, hb⟩
  obtain ⟨A0, A1, A2, c0, c1, c2, rfl, hv⟩ := hv
  have hlast : (newRf room last).last = last := rfl
  rw [hlast]
  have HV := Lib.hid (hv.keep ((Below.refl _ _).alloc (Nat.le_refl _) (.cells #[.slice A0 (newRf room last).gens.length c0, .slice A1 (newRf room last).counts.length c1, .slice A2 (newRf room last).free.length c2, .int .u64 last] 32)))
  clear hlast hv
  obtain ⟨n0, hn0⟩ : ∃ n0, n0 = (newRf room last).gens.length := ⟨_, rfl⟩
  obtain ⟨n1, hn1⟩ : ∃ n0, n0 = (newRf room last).counts.length := ⟨_, rfl⟩
  obtain ⟨n2, hn2⟩ : ∃ n0, n0 = (newRf room last).free.length := ⟨_, rfl⟩
  rw [← hn0, ← hn1, ← hn2] at HV ⊢
  have HNN := Lib.hid (And.intro hn0 (And.intro hn1 hn2))
  clear hn0 hn1 hn2
  have HB := Lib.hid ((HB0.out.keep hb).alloc (.cells #[.slice A0 n0 c0, .slice A1 n1 c1, .slice A2 n2 c2, .int .u64 last] 32))
  have HN := Lib.hid (Blk.new w1 32 #[.slice A0 n0 c0, .slice A1 n1 c1, .slice A2 n2 c2, .int .u64 last])
  have HW := Lib.hid ((belowOn H0.out H0.out.size hb).alloc (belowOn H0.out H0.out.size hb).size (.cells #[.slice A0 n0 c0, .slice A1 n1 c1, .slice A2 n2 c2, .int .u64 last] 32))
  have hlt : w.heap.size < w1.heap.size := by have := hb.size; simp at this; omega
  clear hb HC HB0 H0
  go_upto_region 2 with fail
  generalize w1.alloc (.cells #[.slice A0 n0 c0, .slice A1 n1 c1, .slice A2 n2 c2, .int .u64 last] 32) = w2 at HB HW HN HV ⊢
  have e0 := HB.out.cell 0
  have e1' := HB.out.cell 1
  have e2' := HB.out.cell 2
  have e3 := HB.out.cell 3
  have e4 := HB.out.cell 4
  have e5 := HB.out.cell 5
  have fe := HB.out.frozen
  have g0 := HN.out.cell 0
  have g1 := HN.out.cell 1
  have g2 := HN.out.cell 2
  have g3 := HN.out.cell 3
  simp only [zeroTb, List.getElem?_toArray, List.getElem?_cons_zero, List.getElem?_cons_succ] at e0 e1' e2' e3 e4 e5 g0 g1 g2 g3
  go_wp2_with fail
  have HR := tb_set HB.out rfl HW.out (Nat.le_refl _) (.slice A0 n0 c0) (.slice A1 n1 c1) (.slice A2 n2 c2) (.int .u64 last) (.slice none 0 0) (.int .i64 n)
  refine bodyPost_ret (results_cell_row2 rfl _ _ w.heap.size 35 _ (0, 0) _ rfl HR.1 Tryd.underlying35 rfl (by kernel_rfl)) rfl ?_
  refine ⟨⟨A0, A1, A2, c0, c1, c2, ?_, rfv_tb HV.out HB.out rfl _ _ _ _ _ _⟩, HR.2⟩
  rw [← HNN.out.1, ← HNN.out.2.1, ← HNN.out.2.2]
  rfl

theorem code_errT {w : World} {o : Option Int} {v : Value} (h : ErrT w o v) (hg : ErrType w) :
    Calls Tryd.prog 9 #[v] w fun e w' => e = .returned (.int .i64 (o.getD 0)) ∧ Below w.heap.size w w' := by
  cases o with
  | none =>
    obtain rfl : v = .nilIface := h
    exact code_nil w
  | some c =>
    obtain ⟨l, h⟩ := h
    exact code_chain l v c w h hg

set_option maxHeartbeats 4000000 in
theorem tableNew_walk (room n last : Int) (w : World) (hl : 0 ≤ last) (hE : ErrType w) :
    Calls Tryd.prog 3 #[.int .i64 room, .int .i64 n, .int .u64 last] w fun e w' => e = .returned (.bool true) ∧ Below w.heap.size w w' := by
  have HE := Lib.hid hE
  clear hE
  by_cases hbad : (room < 1 ∨ 4096 < room ∨ last = 0) ∨ ((1 ≤ room ∧ room ≤ 4096 ∧ 1 ≤ last) ∧ (n < 1 ∨ 64 < n))
  · have HB := Lib.hid hbad
    clear hbad
    go_enter Tryd.func3, Tryd.ntmps3
    go_wp2_with fail
    refine (awake_calls _).mono ?_
    rintro e w1 ⟨rfl, hb1⟩
    have HB1 := Lib.hid hb1
    clear hb1
    go_wp2_with fail
    refine (tnew_bad room n last _ HB.out).mono ?_
    rintro e w2 ⟨⟨v, rfl, hc⟩, hb2⟩
    have HB2 := Lib.hid (belowOn HB1.out HB1.out.size hb2)
    have HC := Lib.hid hc
    clear hb2 hc HB1
    go_wp2_with fail
    refine (tref_new_bad room n last _ HB.out).mono ?_
    rintro e w3 ⟨rfl, hb3⟩
    have HB3 := Lib.hid (belowOn HB2.out HB2.out.size hb3)
    have HC3 := Lib.hid (HC.out.keep hb3)
    clear hb3 HB2 HC
    unfold zeroTb
    go_wp2_with fail
    have hB4 := HB3.out.alloc HB3.out.size (.cells zeroTb 35)
    have hC4 := HC3.out.keep ((Below.refl _ _).alloc (Nat.le_refl _) (.cells zeroTb 35))
    refine (code_errT hC4 (HE.out.keep hB4)).mono ?_
    rintro e w4 ⟨rfl, hb4⟩
    have HB4 := Lib.hid (belowOn hB4 hB4.size hb4)
    clear hB4 hC4 hb4
    go_wp2
    go_ret
    exact ⟨rfl, HB4.out⟩
  · obtain ⟨rm, rfl⟩ := Int.eq_ofNat_of_zero_le (show 0 ≤ room by omega)
    obtain ⟨k, rfl⟩ := Int.eq_ofNat_of_zero_le (show 0 ≤ n by omega)
    have h1 : 1 ≤ rm := by omega
    have h2 : rm ≤ 4096 := by omega
    have h3 : 1 ≤ last := by omega
    have h4 : 1 ≤ k := by omega
    have h5 : k ≤ 64 := by omega
    clear hbad
    go_enter Tryd.func3, Tryd.ntmps3
    go_wp2_with fail
    refine (awake_calls _).mono ?_
    rintro e w1 ⟨rfl, hb1⟩
    have HB1 := Lib.hid hb1
    clear hb1
    go_wp2_with fail
    refine (tnew_ok rm k last _ h1 h2 h3 h4 h5).mono ?_
    rintro e w2 ⟨⟨A, rfl, hA, _, _⟩, hb2⟩
    have HB2 := Lib.hid (belowOn HB1.out HB1.out.size hb2)
    have HA := Lib.hid hA
    clear hb2 hA HB1
    go_wp2_with fail
    refine (tref_new_ok rm k last _ h1 h2 h3 h4 h5).mono ?_
    rintro e w3 ⟨⟨A0, A1, A2, c0, c1, c2, rfl, _⟩, hb3⟩
    generalize (newRf rm last).gens.length = n0
    generalize (newRf rm last).counts.length = n1
    generalize (newRf rm last).free.length = n2
    have HB3 := Lib.hid (belowOn HB2.out HB2.out.size hb3)
    have HA3 := Lib.hid (HA.out.keep hb3)
    clear hb3 HB2 HA
    go_wp2_with fail
    have hB4 := HB3.out.alloc HB3.out.size (.cells #[.slice A0 n0 c0, .slice A1 n1 c1, .slice A2 n2 c2, .int .u64 last, .slice none 0 0, .int .i64 k] 35)
    have hA4 := HA3.out.keep ((Below.refl _ _).alloc (Nat.le_refl _) (.cells #[.slice A0 n0 c0, .slice A1 n1 c1, .slice A2 n2 c2, .int .u64 last, .slice none 0 0, .int .i64 k] 35))
    have HB4 := Lib.hid hB4
    have HA4 := Lib.hid hA4
    clear hB4 hA4
    refine (live_calls HA4.out).mono ?_
    rintro e w' ⟨rfl, rfl⟩
    simp only [newTb, List.length_nil]
    go_wp2_with fail
    refine (in_calls HA4.out 0).mono ?_
    rintro e w' ⟨rfl, rfl⟩
    rw [show (newTb rm last k).inN 0 = 0 from by unfold Tb.inN newTb; split <;> rfl]
    go_wp2
    go_ret
    exact ⟨rfl, HB4.out⟩
end Go.Proofs.YtlpjjbkpoaohnaaDoor
