/- The reference's slots: its rows are read, and made anew. -/
import Derived.Test.YtlpjjbkpoaohnaaDoorRowI
import Derived.Test.YtlpjjbkpoaohnaaDoorSlotsApi
import Derived.Outline
set_option linter.unusedVariables false
set_option linter.unusedSimpArgs false
namespace Go.Proofs.YtlpjjbkpoaohnaaDoor
open Go.RowKit Slots

/-- The reference's struct, of three rows. -/
structure RfV (w : World) (A0 A1 A2 : Option Addr) (c0 c1 c2 : Nat) (x : Rf) : Prop where
  g : RowI .u64 22 w A0 x.gens
  c : RowI .i64 3 w A1 x.counts
  f : RowI .i64 3 w A2 x.free
  cg : x.gens.length ≤ c0
  cc : x.counts.length ≤ c1
  cf : x.free.length ≤ c2
  lg : x.gens.length ≤ 10000
  lc : x.counts.length ≤ 10000
  lf : x.free.length ≤ 10000
def RfAt (w : World) (v : Value) (x : Rf) : Prop := ∃ A0 A1 A2 c0 c1 c2, v = .agg #[.slice A0 x.gens.length c0, .slice A1 x.counts.length c1, .slice A2 x.free.length c2, .int .u64 x.last] ∧ RfV w A0 A1 A2 c0 c1 c2 x
theorem RfV.keep {w w' : World} {A0 A1 A2 : Option Addr} {c0 c1 c2 : Nat} {x : Rf} (h : RfV w A0 A1 A2 c0 c1 c2 x) (hb : Below w.heap.size w w') : RfV w' A0 A1 A2 c0 c1 c2 x :=
  ⟨h.g.keepB hb, h.c.keepB hb, h.f.keepB hb, h.cg, h.cc, h.cf, h.lg, h.lc, h.lf⟩
theorem RfAt.keep {w w' : World} {v : Value} {x : Rf} (h : RfAt w v x) (hb : Below w.heap.size w w') : RfAt w' v x := by
  obtain ⟨A0, A1, A2, c0, c1, c2, e, h⟩ := h
  exact ⟨A0, A1, A2, c0, c1, c2, e, h.keep hb⟩
theorem info_u64 : (Tryd.prog.info? 22).map (fun i => (i.zero, i.size, i.bytes)) = some (some (.int .u64 0), 1, 8) := by kernel_rfl
theorem info_int : (Tryd.prog.info? 3).map (fun i => (i.zero, i.size, i.bytes)) = some (some (.int .i64 0), 1, 8) := by kernel_rfl

/-- What stands while 'with' makes its rows: two boxes. -/
structure TwoSt (w0 w : World) (ca cb : Array Value) : Prop where
  b0 : Blk w w0.heap.size 32 ca
  b1 : Blk w (w0.heap.size + 1) 32 cb
  be : Below w0.heap.size w0 w
  sz : w0.heap.size + 2 ≤ w.heap.size
section
variable {w0 w w' : World} {ca cb : Array Value}
theorem TwoSt.alloc (h : TwoSt w0 w ca cb) (o : Obj) : TwoSt w0 (w.alloc o) ca cb := ⟨h.b0.alloc o, h.b1.alloc o, h.be.alloc (by have := h.sz; omega) o, by have := h.sz; simp; omega⟩
theorem TwoSt.grown {row : Option Nat} (h : TwoSt w0 w ca cb) (hg : w.grownBy w' row) (hr : ∀ k, row = some k → w0.heap.size + 2 ≤ k) : TwoSt w0 w' ca cb :=
  ⟨h.b0.grown hg (fun e => by have := hr _ e.symm; omega), h.b1.grown hg (fun e => by have := hr _ e.symm; omega), h.be.grown hg (by have := h.sz; omega) (fun k e => by have := hr _ e; omega), by have := h.sz; have := hg.size; omega⟩
theorem TwoSt.far (h : TwoSt w0 w ca cb) {p : Addr} (hp : w0.heap.size + 2 ≤ p.block) (u : Value) : TwoSt w0 (w.setCell p u) ca cb :=
  ⟨h.b0.far (by omega) u, h.b1.far (by omega) u, h.be.setCell (by omega) u, by have := h.sz; simpa [World.setCell] using this⟩
end

set_option maxHeartbeats 1000000 in
theorem ref_with {w : World} {A0 A1 A2 : Option Addr} {c0 c1 c2 : Nat} {x : Rf} (h : RfV w A0 A1 A2 c0 c1 c2 x) (n : Nat) (hn : n < x.gens.length) (hn' : n < x.counts.length) (gen count : Int) :
    Calls Tryd.prog 67 #[.agg #[.slice A0 x.gens.length c0, .slice A1 x.counts.length c1, .slice A2 x.free.length c2, .int .u64 x.last], .int .i64 n, .int .u64 gen, .int .i64 count] w fun e w' =>
      (∃ B0 B1 k0 k1, e = .returned (.agg #[.slice B0 x.gens.length k0, .slice B1 x.counts.length k1, .slice A2 x.free.length c2, .int .u64 x.last]) ∧ RfV w' B0 B1 A2 k0 k1 c2 (x.with_ n gen count) ∧ (∀ b off, B0 = some ⟨b, off, none⟩ → w.heap.size ≤ b) ∧ (∀ b off, B1 = some ⟨b, off, none⟩ → w.heap.size ≤ b)) ∧ Below w.heap.size w w' := by
  have HH := Lib.hid h
  clear h
  go_enter Tryd.func67, Tryd.ntmps67
  go_wp2_with (at_builtin; refine stop_here ?_)
  refine stop_go ?_
  have hW : TwoSt w ((w.alloc (.cells #[.slice A0 x.gens.length c0, .slice A1 x.counts.length c1, .slice A2 x.free.length c2, .int .u64 x.last] 32)).alloc (.cells #[.slice none 0 0, .slice none 0 0, .slice none 0 0, .int .u64 0] 32)) #[.slice A0 x.gens.length c0, .slice A1 x.counts.length c1, .slice A2 x.free.length c2, .int .u64 x.last] #[.slice none 0 0, .slice none 0 0, .slice none 0 0, .int .u64 0] := by
    refine ⟨(Blk.new w _ _).alloc _, ?_, ((Below.refl _ _).alloc (Nat.le_refl _) _).alloc (by simp) _, by simp⟩
    have := Blk.new (w.alloc (.cells #[.slice A0 x.gens.length c0, .slice A1 x.counts.length c1, .slice A2 x.free.length c2, .int .u64 x.last] 32)) 32 #[.slice none 0 0, .slice none 0 0, .slice none 0 0, .int .u64 0]
    simpa using this
  have hz : ((w.alloc (.cells #[.slice A0 x.gens.length c0, .slice A1 x.counts.length c1, .slice A2 x.free.length c2, .int .u64 x.last] 32)).alloc (.cells #[.slice none 0 0, .slice none 0 0, .slice none 0 0, .int .u64 0] 32)).heap.size = w.heap.size + 2 := by simp
  refine wpList_appendI rfl (.tmp 11) (.tmp 13) _ 22 .u64 8 rfl Tryd.underlying29 info_u64 (Nat.le_refl _) (w.heap.size + 2) (.slice (some ⟨w.heap.size + 2, 0, none⟩) 0 0) [] A0 c0 x.gens rfl rfl ?_ ?_ (by have := HH.out.lg; simp; omega) (by simp) ?_
  · have := OwnI.fresh ((w.alloc (.cells #[.slice A0 x.gens.length c0, .slice A1 x.counts.length c1, .slice A2 x.free.length c2, .int .u64 x.last] 32)).alloc (.cells #[.slice none 0 0, .slice none 0 0, .slice none 0 0, .int .u64 0] 32)) (w.heap.size + 2) 22 .u64 (by rw [hz]; omega)
    rw [hz] at this
    exact this
  · exact HH.out.g.keepB (hW.alloc _).be
  intro v1 w1 ho1 hg1 hat1
  have hT1 := (hW.alloc (.cells #[] 22)).grown hg1 (fun k e => by simp only [Value.ownBlock, Option.some.injEq] at e; omega)
  rw [List.nil_append] at ho1
  obtain ⟨g1, cap1, cur1, rfl, hb1, _, _, hgg1, hc1, hfz1⟩ := row_form ho1 (by omega)
  have n1 : w.heap.size + 2 ≤ g1 := hb1
  have HT1 := Lib.hid hT1
  have HO1 := Lib.hid ho1
  obtain ⟨y, hy⟩ : ∃ y, x.gens[n]? = some y := ⟨_, List.getElem?_eq_getElem hn⟩
  have d1 := hc1 n (.int .u64 y) (by rw [List.getElem?_map, hy]; rfl)
  have f1 := hfz1 n
  have b0 := hT1.b0.cell 1
  have e1 : ¬ g1 = w.heap.size := by omega
  have e2 : ¬ w.heap.size = g1 := by omega
  have e3 : w.heap.size < w1.heap.size := by have := hT1.sz; omega
  have e4 : g1 < w1.heap.size := (Array.getElem?_eq_some_iff.1 hgg1).1
  simp only [List.getElem?_toArray, List.getElem?_cons_zero, List.getElem?_cons_succ] at b0
  clear hW hz hg1 hat1 hT1 ho1 hc1 hfz1 hgg1 hb1 hy
  have hn1 : (n : Int) < (x.gens.length : Int) := by omega
  go_wp2_with (at_builtin; refine stop_here ?_)
  refine stop_go ?_
  clear b0 d1 f1
  have hT2 := (HT1.out.far (p := ⟨g1, n, none⟩) n1 (.int .u64 gen))
  have hO2 := HO1.out.set_ rfl n gen
  have hz2 : (w1.setCell ⟨g1, n, none⟩ (.int .u64 gen)).heap.size = w1.heap.size := by simp [World.setCell]
  generalize w1.setCell ⟨g1, n, none⟩ (.int .u64 gen) = w2 at hT2 hO2 hz2 ⊢
  rw [← hz2] at e3 e4 ⊢
  clear hz2 HT1 HO1
  refine wpList_appendI rfl (.tmp 19) (.tmp 21) _ 3 .i64 8 rfl Tryd.underlying30 info_int (Nat.le_refl _) w2.heap.size (.slice (some ⟨w2.heap.size, 0, none⟩) 0 0) [] A1 c1 x.counts rfl rfl (OwnI.fresh w2 _ _ _ (Nat.le_refl _)) (HH.out.c.keepB (hT2.alloc _).be) (by have := HH.out.lc; simp; omega) (by simp) ?_
  intro v3 w3 ho3 hg3 hat3
  have hO3 : OwnI w3 (w.heap.size + 2) 22 .u64 (.slice (some ⟨g1, 0, none⟩) x.gens.length cap1) (x.gens.set n gen) := by
    refine hO2.keep fun g hg => ?_
    simp only [Value.ownBlock, Option.some.injEq] at hg
    subst hg
    rw [hg3.block g1 (by simp; omega) (by simp only [Value.ownBlock, ne_eq, Option.some.injEq]; omega)]
    exact Below.heap_alloc w2 _ g1 e4
  have hT3 := (hT2.alloc (.cells #[] 3)).grown hg3 (fun k e => by simp only [Value.ownBlock, Option.some.injEq] at e; have := hT2.sz; omega)
  rw [List.nil_append] at ho3
  obtain ⟨g3, cap3, cur3, rfl, hb3, _, _, hgg3, hc3, hfz3⟩ := row_form ho3 (by omega)
  have n3 : w.heap.size + 2 ≤ g3 := by have := hT2.sz; omega
  have HT3 := Lib.hid hT3
  have HO3 := Lib.hid ho3
  have HO1 := Lib.hid hO3
  obtain ⟨y, hy⟩ : ∃ y, x.counts[n]? = some y := ⟨_, List.getElem?_eq_getElem hn'⟩
  have d3 := hc3 n (.int .i64 y) (by rw [List.getElem?_map, hy]; rfl)
  have f3 := hfz3 n
  have b0 := hT3.b0.cell 0
  have b1 := hT3.b0.cell 1
  have b2 := hT3.b0.cell 2
  have b3 := hT3.b0.cell 3
  have p0 := hT3.b1.cell 0
  have p1 := hT3.b1.cell 1
  have p2 := hT3.b1.cell 2
  have p3 := hT3.b1.cell 3
  have fb := hT3.b0.frozen
  have fp := hT3.b1.frozen
  have q1 : ¬ g3 = w.heap.size := by omega
  have q2 : ¬ w.heap.size = g3 := by omega
  have q3 : ¬ g3 = w.heap.size + 1 := by omega
  have q4 : ¬ w.heap.size + 1 = g3 := by omega
  have q5 : ¬ g1 = g3 := by omega
  have m1 : ¬ g1 = w.heap.size + 1 := by omega
  simp only [List.getElem?_toArray, List.getElem?_cons_zero, List.getElem?_cons_succ] at b0 b1 b2 b3 p0 p1 p2 p3
  clear hT2 hO2 hg3 hat3 hT3 ho3 hc3 hfz3 hgg3 hb3 hy hO3 e2 e3 e4 hn1
  have hn1 : (n : Int) < (x.counts.length : Int) := by omega
  go_wp2
  have hB := (HT3.out.far (p := ⟨g3, n, none⟩) n3 (.int .i64 count))
  have hO := HO3.out.set_ rfl n count
  have hO1 : OwnI (w3.setCell ⟨g3, n, none⟩ (.int .i64 count)) (w.heap.size + 2) 22 .u64 (.slice (some ⟨g1, 0, none⟩) x.gens.length cap1) (x.gens.set n gen) :=
    HO1.out.keep fun g hg => by
      simp only [Value.ownBlock, Option.some.injEq] at hg
      subst hg
      exact Below.heap_setCell _ _ _ _ q5
  clear b0 b1 b2 b3 p0 p1 p2 p3 fb fp d3 f3
  generalize w3.setCell ⟨g3, n, none⟩ (.int .i64 count) = w4 at hB hO hO1 ⊢
  have hbe : Below w.heap.size w (((((((w4.setCell { block := w.heap.size, off := 0 } (Value.slice (some { block := g1, off := 0 }) x.gens.length cap1)).setCell { block := w.heap.size, off := 1 } (Value.slice (some { block := g3, off := 0 }) x.counts.length cap3)).setCell { block := w.heap.size + 1, off := 0 } (Value.slice (some { block := g1, off := 0 }) x.gens.length cap1)).setCell { block := w.heap.size + 1, off := 1 } (Value.slice (some { block := g3, off := 0 }) x.counts.length cap3)).setCell { block := w.heap.size + 1, off := 2 } (Value.slice A2 x.free.length c2)).setCell { block := w.heap.size + 1, off := 3 } (Value.int IntKind.u64 x.last))) :=
    (((((hB.be.setCell (by simp) _).setCell (by simp) _).setCell (by simp) _).setCell (by simp) _).setCell (by simp) _).setCell (by simp) _
  have hres := ((((((hB.b1.far (p := ⟨w.heap.size, 0, none⟩) (by simp) (Value.slice (some { block := g1, off := 0 }) x.gens.length cap1)).far (p := ⟨w.heap.size, 1, none⟩) (by simp) (Value.slice (some { block := g3, off := 0 }) x.counts.length cap3)).set_ 0 (Value.slice (some { block := g1, off := 0 }) x.gens.length cap1)).set_ 1 (Value.slice (some { block := g3, off := 0 }) x.counts.length cap3)).set_ 2 (Value.slice A2 x.free.length c2)).set_ 3 (Value.int IntKind.u64 x.last))
  simp only [List.setIfInBounds_toArray, List.set_cons_zero, List.set_cons_succ] at hres
  refine bodyPost_ret (results_cell_row rfl _ _ (w.heap.size + 1) 32 _ (0, 0) _ rfl hres Tryd.underlying32 rfl (by kernel_rfl)) rfl ?_
  have hl1 : (x.gens.set n gen).length = x.gens.length := List.length_set
  have hl3 : (x.counts.set n count).length = x.counts.length := List.length_set
  have hkeep : ∀ (g : Nat), g ≠ w.heap.size → g ≠ w.heap.size + 1 → (((((((w4.setCell { block := w.heap.size, off := 0 } (Value.slice (some { block := g1, off := 0 }) x.gens.length cap1)).setCell { block := w.heap.size, off := 1 } (Value.slice (some { block := g3, off := 0 }) x.counts.length cap3)).setCell { block := w.heap.size + 1, off := 0 } (Value.slice (some { block := g1, off := 0 }) x.gens.length cap1)).setCell { block := w.heap.size + 1, off := 1 } (Value.slice (some { block := g3, off := 0 }) x.counts.length cap3)).setCell { block := w.heap.size + 1, off := 2 } (Value.slice A2 x.free.length c2)).setCell { block := w.heap.size + 1, off := 3 } (Value.int IntKind.u64 x.last))).heap[g]? = w4.heap[g]? := fun g h0 h1 => by
    rw [Below.heap_setCell _ _ _ _ h1, Below.heap_setCell _ _ _ _ h1, Below.heap_setCell _ _ _ _ h1, Below.heap_setCell _ _ _ _ h1, Below.heap_setCell _ _ _ _ h0, Below.heap_setCell _ _ _ _ h0]
  have hr1 := (hO1.keep (fun g hg => by simp only [Value.ownBlock, Option.some.injEq] at hg; subst hg; exact hkeep _ e1 m1)).row
  have hr3 := (hO.keep (fun g hg => by simp only [Value.ownBlock, Option.some.injEq] at hg; subst hg; exact hkeep _ q1 q3)).row
  obtain ⟨B1, k1, u1, r1, s1, _⟩ := hr1
  obtain ⟨B3, k3, u3, r3, s3, _⟩ := hr3
  injection u1 with u1 _ u1'
  injection u3 with u3 _ u3'
  subst u1 u1' u3 u3'
  refine ⟨⟨_, _, _, _, rfl, ⟨?_, ?_, HH.out.f.keepB hbe, ?_, ?_, HH.out.cf, ?_, ?_, HH.out.lf⟩, fun b off e => ?_, fun b off e => ?_⟩, hbe⟩
  · simp only [Rf.with_, Int.toNat_natCast]; exact r1
  · simp only [Rf.with_, Int.toNat_natCast]; exact r3
  · simp only [Rf.with_, Int.toNat_natCast]; exact s1
  · simp only [Rf.with_, Int.toNat_natCast]; exact s3
  · simp only [Rf.with_, Int.toNat_natCast, hl1]; exact HH.out.lg
  · simp only [Rf.with_, Int.toNat_natCast, hl3]; exact HH.out.lc
  · cases e; omega
  · cases e; omega
end Go.Proofs.YtlpjjbkpoaohnaaDoor
