/- The reference's Do, whatever the act. -/
import Derived.Test.YtkmmnmicmjohgaaDoorSlotsRefDo2
set_option linter.unusedVariables false
set_option linter.unusedSimpArgs false
namespace Go.Proofs.YtkmmnmicmjohgaaDoor
open Go.RowKit Slots

theorem ref_take {w : World} {v : Value} {x : Rf} (h : RfAt w v x) (hok : RfOk x) :
    Calls Tryd.prog 33 #[v] w fun e w' => (∃ v', e = .returned (.tuple #[v', .agg #[.int .i64 (x.take.2.getD (0, 0)).1, .int .u64 (x.take.2.getD (0, 0)).2], .int .i64 (if x.free = [] then 8 else 0)]) ∧ RfAt w' v' x.take.1) ∧ Below w.heap.size w w' := by
  cases hf : x.free with
  | nil =>
    have ht : x.take = (x, none) := by unfold Rf.take; rw [hf]
    rw [ht, if_pos rfl]
    exact ref_take_none h hf
  | cons n l =>
    have hr := hok.rng n (by rw [hf]; exact List.mem_cons_self ..)
    obtain ⟨m, rfl⟩ := Int.eq_ofNat_of_zero_le hr.1
    have ht : x.take = ({ x.with_ m (x.gen m) 1 with free := l }, some ((m : Int), x.gen m)) := by unfold Rf.take; rw [hf]
    rw [ht, if_neg (by simp)]
    exact ref_take_some h hf (by omega) hok.len

set_option maxHeartbeats 8000000 in
theorem ref_do_take {w : World} {v : Value} {x : Rf} (h : RfAt w v x) (hok : RfOk x) (k c d : Int) (hk : 0 ≤ k ∧ k ≤ 255) (h4 : k % 4 = 0) :
    Calls Tryd.prog 23 #[v, .agg #[.int .u8 k, .int .u8 c, .int .u8 d]] w fun e w' =>
      (∃ v', e = .returned (.tuple #[v', .agg #[.int .i64 (x.take.2.getD (0, 0)).1, .int .u64 (x.take.2.getD (0, 0)).2], .int .i64 0, .int .i64 (if x.free = [] then 8 else 0)]) ∧ RfAt w' v' x.take.1) ∧ Below w.heap.size w w' := by
  obtain ⟨A0, A1, A2, c0, c1, c2, rfl, h⟩ := h
  have hT := do_blocks w #[.slice A0 x.gens.length c0, .slice A1 x.counts.length c1, .slice A2 x.free.length c2, .int .u64 x.last] #[.int .u8 k, .int .u8 c, .int .u8 d] #[.slice none 0 0, .slice none 0 0, .slice none 0 0, .int .u64 0] #[.int .i64 0, .int .u64 0]
  have HT := Lib.hid hT
  have HH := Lib.hid h
  have HOK := Lib.hid hok
  obtain ⟨r0, hr0⟩ : ∃ r, r = x.take.2.getD (0, 0) := ⟨_, rfl⟩
  obtain ⟨r1, hr1⟩ : ∃ r : Int, r = (if x.free = [] then 8 else 0) := ⟨_, rfl⟩
  obtain ⟨y, hy⟩ : ∃ y : Rf, y = x.take.1 := ⟨_, rfl⟩
  rw [← hr0, ← hr1, ← hy]
  have HR := Lib.hid (And.intro hr0 (And.intro hr1 hy))
  clear h hT hr0 hr1 hok hy
  go_enter Tryd.func23, Tryd.ntmps23
  go_wp2_with fail
  generalize (((w.alloc (.cells #[.slice A0 x.gens.length c0, .slice A1 x.counts.length c1, .slice A2 x.free.length c2, .int .u64 x.last] 30)).alloc (.cells #[.int .u8 k, .int .u8 c, .int .u8 d] 56)).alloc (.cells #[.slice none 0 0, .slice none 0 0, .slice none 0 0, .int .u64 0] 30)).alloc (.cells #[.int .i64 0, .int .u64 0] 34) = W at HT ⊢
  have hcc := ref_take (x := x) ⟨A0, A1, A2, c0, c1, c2, rfl, HH.out.keep HT.out.be⟩ HOK.out
  rw [← HR.out.1, ← HR.out.2.1, ← HR.out.2.2] at hcc
  refine hcc.mono ?_
  clear hcc
  rintro e w2 ⟨⟨v2, rfl, B0, B1, B2, k0, k1, k2, hv2, hr2⟩, hb2⟩
  subst hv2
  have hT2 := HT.out.keep hb2
  obtain ⟨m1, m2, m3⟩ := box_new hT2 hr2 (.slice B0 y.gens.length k0) (.slice B1 y.counts.length k1) (.slice B2 y.free.length k2) (.int .u64 y.last)
  have z2 := hT2.sz
  have hN : (w2.alloc (.cells #[.slice B0 y.gens.length k0, .slice B1 y.counts.length k1, .slice B2 y.free.length k2, .int .u64 y.last] 30)).heap.size = w2.heap.size + 1 := by simp
  have m4 := Blk.new (w2.alloc (.cells #[.slice B0 y.gens.length k0, .slice B1 y.counts.length k1, .slice B2 y.free.length k2, .int .u64 y.last] 30)) 34 #[.int .i64 r0.1, .int .u64 r0.2]
  rw [hN] at m4
  have m1' := m1.alloc (.cells #[.int .i64 r0.1, .int .u64 r0.2] 34)
  have m2' := m2.keep ((Below.refl _ _).alloc (Nat.le_refl _) (.cells #[.int .i64 r0.1, .int .u64 r0.2] 34))
  have m3' := m3.alloc (.cells #[.int .i64 r0.1, .int .u64 r0.2] 34)
  have M1 := Lib.hid m1'
  have M2 := Lib.hid m2'
  have M3 := Lib.hid m3'
  have M4 := Lib.hid m4
  clear hT2 hr2 hb2 m1 m2 m3 hN m4 m1' m2' m3'
  go_wp2_with fail
  generalize (w2.alloc (.cells #[.slice B0 y.gens.length k0, .slice B1 y.counts.length k1, .slice B2 y.free.length k2, .int .u64 y.last] 30)).alloc (.cells #[.int .i64 r0.1, .int .u64 r0.2] 34) = W9 at M1 M2 M3 M4 ⊢
  have d0 := M3.out.cell 0
  have d1 := M3.out.cell 1
  have d2 := M3.out.cell 2
  have d3 := M3.out.cell 3
  have e0 := M4.out.cell 0
  have e1 := M4.out.cell 1
  have t0 := M1.out.b2.cell 0
  have t1 := M1.out.b2.cell 1
  have t2 := M1.out.b2.cell 2
  have t3 := M1.out.b2.cell 3
  have s0 := M1.out.b3.cell 0
  have s1 := M1.out.b3.cell 1
  have ft := M1.out.b2.frozen
  have fs := M1.out.b3.frozen
  simp only [List.getElem?_toArray, List.getElem?_cons_zero, List.getElem?_cons_succ] at d0 d1 d2 d3 t0 t1 t2 t3 s0 s1 e0 e1
  have x1 : ¬ w2.heap.size = w.heap.size + 1 + 1 := by omega
  have x2 : ¬ w2.heap.size = w.heap.size + 1 + 1 + 1 := by omega
  have x3 : ¬ w2.heap.size + 1 = w.heap.size + 1 + 1 := by omega
  have x4 : ¬ w2.heap.size + 1 = w.heap.size + 1 + 1 + 1 := by omega
  have x1' : ¬ w.heap.size + 1 + 1 = w2.heap.size := by omega
  have x2' : ¬ w.heap.size + 1 + 1 + 1 = w2.heap.size := by omega
  have x3' : ¬ w.heap.size + 1 + 1 = w2.heap.size + 1 := by omega
  have x4' : ¬ w.heap.size + 1 + 1 + 1 = w2.heap.size + 1 := by omega
  have x5 : ¬ w.heap.size + 1 + 1 = w.heap.size + 1 + 1 + 1 := by omega
  have x6 : ¬ w.heap.size + 1 + 1 + 1 = w.heap.size + 1 + 1 := by omega
  generalize w2.heap.size = gx at x1 x2 x3 x4 x1' x2' x3' x4' d0 d1 d2 d3 e0 e1 M3 M4 ⊢
  obtain ⟨kk, kk2, kb, kh⟩ := M1.out.result (.slice B0 y.gens.length k0) (.slice B1 y.counts.length k1) (.slice B2 y.free.length k2) (.int .u64 y.last) (.int .i64 r0.1) (.int .u64 r0.2)
  have hb3 := do_b3 M1.out (.slice B0 y.gens.length k0) (.slice B1 y.counts.length k1) (.slice B2 y.free.length k2) (.int .u64 y.last) (.int .i64 r0.1)
  have hrr : RfV _ B0 B1 B2 k0 k1 k2 y := (((((M2.out.farT M1.out.b2 0 (.slice B0 y.gens.length k0)).farT (M1.out.b2.set_ 0 (.slice B0 y.gens.length k0)) 1 (.slice B1 y.counts.length k1)).farT ((M1.out.b2.set_ 0 (.slice B0 y.gens.length k0)).set_ 1 (.slice B1 y.counts.length k1)) 2 (.slice B2 y.free.length k2)).farT (((M1.out.b2.set_ 0 (.slice B0 y.gens.length k0)).set_ 1 (.slice B1 y.counts.length k1)).set_ 2 (.slice B2 y.free.length k2)) 3 (.int .u64 y.last)))
  have hrr2 := (hrr.farH hb3.1 0 (.int .i64 r0.1)).farH hb3.2 1 (.int .u64 r0.2)
  have K1 := Lib.hid kk
  have K2 := Lib.hid kk2
  have K3 := Lib.hid kb
  have HRR := Lib.hid hrr2
  clear kk kk2 kb kh hb3 hrr hrr2 z2
  go_region
  all_goals (
    go_wp2
    refine bodyPost_ret (results_cell2_tmp2 rfl _ _ (w.heap.size + 1 + 1) (w.heap.size + 1 + 1 + 1) _ _ _ _ (0, 0) (0, 0) _ _ rfl (Blk.drew K1.out) Tryd.underlying30 rfl (by kernel_rfl) rfl (Blk.drew K2.out) Tryd.underlying34 rfl (by kernel_rfl)) rfl ?_
    exact ⟨⟨_, rfl, B0, B1, B2, k0, k1, k2, rfl, HRR.out.keep ((Below.refl _ _).drew)⟩, K3.out.drew⟩)

/-- Do, whatever the act. -/
theorem ref_do {w : World} {v : Value} {x : Rf} (h : RfAt w v x) (hok : RfOk x) (k c d : Int) (hk : 0 ≤ k ∧ k ≤ 255) (hc : 0 ≤ c ∧ c ≤ 255) (hd : 0 ≤ d ∧ d ≤ 255) :
    Calls Tryd.prog 23 #[v, .agg #[.int .u8 k, .int .u8 c, .int .u8 d]] w fun e w' =>
      (∃ v', e = .returned (.tuple #[v', .agg #[.int .i64 (x.act (k % 4) (handleOf c d)).2.1.1, .int .u64 (x.act (k % 4) (handleOf c d)).2.1.2], .int .i64 (x.act (k % 4) (handleOf c d)).2.2.1, .int .i64 (x.act (k % 4) (handleOf c d)).2.2.2]) ∧ RfAt w' v' (x.act (k % 4) (handleOf c d)).1) ∧ Below w.heap.size w w' := by
  have h4 : k % 4 = 0 ∨ k % 4 = 1 ∨ k % 4 = 2 ∨ k % 4 = 3 := by omega
  rcases h4 with h4 | h4 | h4 | h4
  · have := ref_do_take h hok k c d hk h4
    rw [h4]; unfold Rf.act; rw [if_pos rfl]; exact this
  · have := ref_do_add h hok k c d hk hc hd h4
    rw [h4]; unfold Rf.act; rw [if_neg (by decide), if_pos rfl]; exact this
  · have := ref_do_drop h hok k c d hk hc hd h4
    rw [h4]; unfold Rf.act; rw [if_neg (by decide), if_neg (by decide), if_pos rfl]; exact this
  · have := ref_do_count h hok k c d hk hc hd h4
    rw [h4]; unfold Rf.act; rw [if_neg (by decide), if_neg (by decide), if_neg (by decide)]; exact this
theorem Slots.Sim.rfok {s : St} {x : Rf} (h : Sim s x) {K : Int} (hs : Small K s) (h0 : 0 ≤ K) (hK : K ≤ 900000) (hl : s.sl.length ≤ 5000) : RfOk x := by
  have hfree : x.free.length ≤ s.sl.length := nodup_le h.nodup h.range
  have h1 := h.lg
  have h2 := h.lc
  exact ⟨by omega, fun i => by have := h.count_bound hs h0 i; omega, by omega, fun n hn => by have := h.range n hn; omega⟩
/-- An act, of both: the same is told. -/
theorem both_act {s : St} {x : Rf} (h : Sim s x) (kd : Int) (a : Int × Int) : ∃ s' x' p m o, s.act kd a = (s', p, m, o) ∧ x.act kd a = (x', p, m, o.getD 0) ∧ Sim s' x' := by
  obtain ⟨h1, h2, h3, h4⟩ := sim_act h kd a
  refine ⟨(s.act kd a).1, (x.act kd a).1, (s.act kd a).2.1, (s.act kd a).2.2.1, (s.act kd a).2.2.2, rfl, ?_, h4⟩
  rw [h1, h2, h3]
end Go.Proofs.YtkmmnmicmjohgaaDoor
