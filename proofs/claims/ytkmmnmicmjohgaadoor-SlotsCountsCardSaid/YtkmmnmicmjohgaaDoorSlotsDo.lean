/- The law's do: an act of the program's slots. -/
import Derived.Test.YtkmmnmicmjohgaaDoorSlotsAct
import Derived.Test.YtkmmnmicmjohgaaDoorSlotsRef2
set_option linter.unusedVariables false
set_option linter.unusedSimpArgs false
namespace Go.Proofs.YtkmmnmicmjohgaaDoor
open Go.RowKit Slots

theorem kind_cases {k : Int} (h : 0 ≤ k) : k % 4 = 0 ∨ k % 4 = 1 ∨ k % 4 = 2 ∨ k % 4 = 3 := by omega
theorem At.kept {w w' : World} {b g : Nat} {s : St} {B : Nat} (h : At w b g s) (hb : Below B w w') (h1 : b < B) (h2 : g < B) : At w' b g s := ⟨h.ne, h.blk.below hb h1, h.row.below hb h2⟩

theorem errV_keep {w w' : World} {B : ByteArray} {o : Option Int} {v : Value} (h : ErrV w B o v) (hb : Below w.heap.size w w') : ErrV w' B o v := by
  cases o with
  | none => exact h
  | some c => exact Chain.keep hb h
theorem errV_res {w1 : World} {g : Nat} {x y : Value} {B : ByteArray} {o : Option Int} {z : Value} (h : Blk w1 g 34 #[x, y]) (hc : ErrV w1 B o z) (u v : Value) : ErrV ((w1.setCell ⟨g, 0, none⟩ u).setCell ⟨g, 1, none⟩ v) B o z := by
  cases o with
  | none => exact hc
  | some c => exact res_chain h hc u v
/-- A result's two cells written: what stands. -/
theorem do_res {w w1 : World} {b g : Nat} {s : St} {B : ByteArray} {o : Option Int} {z x y : Value} (h : Blk w1 (w.heap.size + 1) 34 #[x, y]) (hA : At w1 b g s) (hF : Fr w w1 (fun i => i = b ∨ i = g)) (hE : ErrV w1 B o z) (hb : b < w.heap.size) (hg : g < w.heap.size) (u v : Value) :
    Blk ((w1.setCell ⟨w.heap.size + 1, 0, none⟩ u).setCell ⟨w.heap.size + 1, 1, none⟩ v) (w.heap.size + 1) 34 #[u, v] ∧ ErrV ((w1.setCell ⟨w.heap.size + 1, 0, none⟩ u).setCell ⟨w.heap.size + 1, 1, none⟩ v) B o z ∧ At ((w1.setCell ⟨w.heap.size + 1, 0, none⟩ u).setCell ⟨w.heap.size + 1, 1, none⟩ v) b g s ∧ Fr w ((w1.setCell ⟨w.heap.size + 1, 0, none⟩ u).setCell ⟨w.heap.size + 1, 1, none⟩ v) (fun i => i = b ∨ i = g) :=
  ⟨(h.set_ 0 u).set_ 1 v, errV_res h hE u v, ⟨hA.ne, (hA.blk.far (by simp; omega) u).far (by simp; omega) v, (hA.row.far (by simp; omega) u).far (by simp; omega) v⟩, (hF.setCell (p := ⟨w.heap.size + 1, 0, none⟩) (.inr (by simp)) u).setCell (p := ⟨w.heap.size + 1, 1, none⟩) (.inr (by simp)) v⟩

set_option maxHeartbeats 8000000 in
theorem do_calls {w : World} {b g : Nat} {s : St} (h : At w b g s) (hf : Fine s) (k c d : Int) (hk : 0 ≤ k ∧ k ≤ 255) (hc : 0 ≤ c ∧ c ≤ 255) (hd : 0 ≤ d ∧ d ≤ 255) :
    Calls Tryd.prog 18 #[.pointer (some ⟨b, 0, none⟩), .agg #[.int .u8 k, .int .u8 c, .int .u8 d]] w fun e w' =>
      (∃ v, e = .returned (.tuple #[.agg #[.int .i64 (s.act (k % 4) (handleOf c d)).2.1.1, .int .u64 (s.act (k % 4) (handleOf c d)).2.1.2], .int .i64 (s.act (k % 4) (handleOf c d)).2.2.1, v]) ∧ ErrV w' slotsB (s.act (k % 4) (handleOf c d)).2.2.2 v) ∧ At w' b g (s.act (k % 4) (handleOf c d)).1 ∧ Fr w w' (fun i => i = b ∨ i = g) := by
  have hbs := h.blk.lt
  have hgs := h.row.lt
  have hA : At ((w.alloc (.cells #[.int .u8 k, .int .u8 c, .int .u8 d] 56)).alloc (.cells #[.int .i64 0, .int .u64 0] 34)) b g s := ⟨h.ne, (h.blk.alloc _).alloc _, (h.row.alloc _).alloc _⟩
  have hB0 := (Blk.new w 56 #[.int .u8 k, .int .u8 c, .int .u8 d]).alloc (.cells #[.int .i64 0, .int .u64 0] 34)
  have hB1 : Blk ((w.alloc (.cells #[.int .u8 k, .int .u8 c, .int .u8 d] 56)).alloc (.cells #[.int .i64 0, .int .u64 0] 34)) (w.heap.size + 1) 34 #[.int .i64 0, .int .u64 0] := by
    have := Blk.new (w.alloc (.cells #[.int .u8 k, .int .u8 c, .int .u8 d] 56)) 34 #[.int .i64 0, .int .u64 0]
    simpa using this
  have hF : Fr w ((w.alloc (.cells #[.int .u8 k, .int .u8 c, .int .u8 d] 56)).alloc (.cells #[.int .i64 0, .int .u64 0] 34)) (fun i => i = b ∨ i = g) := ((Fr.refl w _).alloc _).alloc _
  have hZ : ((w.alloc (.cells #[.int .u8 k, .int .u8 c, .int .u8 d] 56)).alloc (.cells #[.int .i64 0, .int .u64 0] 34)).heap.size = w.heap.size + 2 := by simp
  have HA := Lib.hid hA
  have HB0 := Lib.hid hB0
  have HB1 := Lib.hid hB1
  have HF := Lib.hid hF
  have HZ := Lib.hid hZ
  have HH := Lib.hid h
  generalize hho : handleOf c d = ho
  have HHO := Lib.hid hho
  clear hA hB0 hB1 hF hZ h hho
  have ha0 : s.act 0 ho = (s.take.1, s.take.2.getD (0, 0), 0, if s.left = 0 then some 8 else none) := by unfold St.act; rw [if_pos rfl]
  obtain ⟨oe, hoe⟩ : ∃ oe : Option Int, oe = (if s.left = 0 then some 8 else none) := ⟨_, rfl⟩
  obtain ⟨p, hp⟩ : ∃ p : Int × Int, p = s.take.2.getD (0, 0) := ⟨_, rfl⟩
  rw [← hoe, ← hp] at ha0
  have HOE := Lib.hid hoe
  have HP := Lib.hid hp
  clear hoe hp
  have ha1 : s.act 1 ho = ((s.turn ho 1).1, (0, 0), 0, st s ho) := by unfold St.act; rw [if_neg (by decide), if_pos rfl]
  have ha2 : s.act 2 ho = ((s.turn ho (-1)).1, (0, 0), (s.turn ho (-1)).2.getD 0, st s ho) := by unfold St.act; rw [if_neg (by decide), if_neg (by decide), if_pos rfl]
  have ha3 : s.act 3 ho = ((s.turn ho 0).1, (0, 0), (s.turn ho 0).2.getD 0, st s ho) := by unfold St.act; rw [if_neg (by decide), if_neg (by decide), if_neg (by decide)]
  rcases kind_cases hk.1 with h4 | h4 | h4 | h4
  all_goals (
    rw [h4]
    first | rw [ha0] | rw [ha1] | rw [ha2] | rw [ha3]
    clear ha0 ha1 ha2 ha3
    go_enter Tryd.func18, Tryd.ntmps18
    go_wp2_with fail
    generalize (w.alloc (.cells #[.int .u8 k, .int .u8 c, .int .u8 d] 56)).alloc (.cells #[.int .i64 0, .int .u64 0] 34) = w0 at HA HB0 HB1 HF HZ ⊢
    refine (ref_handle k c d hc hd w0).mono ?_
    rintro e w1 ⟨rfl, hb1⟩
    rw [HHO.out]
    have hA1 := HA.out.keep hb1
    have hB01 := HB0.out.keep hb1
    have hB11 := HB1.out.keep hb1
    have hF1 := HF.out.trans (Fr.of_below hb1 (fun i => i = b ∨ i = g)) (fun i hi => .inl hi)
    have hZ1 : w.heap.size + 2 ≤ w1.heap.size := by have := HZ.out; have := hb1.size; omega
    have k0 := hB01.cell 0
    simp only [List.getElem?_toArray, List.getElem?_cons_zero, List.getElem?_cons_succ] at k0
    have HA1 := Lib.hid (show At (w1.alloc (.cells #[.int .i64 ho.1, .int .u64 ho.2] 34)) b g s from ⟨hA1.ne, hA1.blk.alloc _, hA1.row.alloc _⟩)
    have HB11 := Lib.hid (hB11.alloc (.cells #[.int .i64 ho.1, .int .u64 ho.2] 34))
    have HX1 := Lib.hid (Blk.new w1 34 #[.int .i64 ho.1, .int .u64 ho.2])
    have HF1 := Lib.hid (hF1.alloc (.cells #[.int .i64 ho.1, .int .u64 ho.2] 34))
    have x0 := HX1.out.cell 0
    have x1 := HX1.out.cell 1
    simp only [List.getElem?_toArray, List.getElem?_cons_zero, List.getElem?_cons_succ] at x0 x1
    have z1 : w.heap.size < w1.heap.size := by omega
    clear hA1 hB01 hB11 hF1 hb1 HA HB0 HB1 HF HZ
    go_wp2_with fail)
  · have hst := slots_take HA1.out hf
    rw [← HOE.out, ← HP.out] at hst
    refine hst.mono ?_
    clear hst
    rintro e w2 ⟨⟨v, rfl, hv⟩, hA2, hF2⟩
    have hr2 := HB11.out.fr hF2 (by rintro (e | e) <;> omega)
    have hF3 := HF1.out.trans hF2 (fun i hi => .inl hi)
    have hz2 : w.heap.size + 2 ≤ w2.heap.size := by have := hF2.size; simp at this; omega
    have r0 := hr2.cell 0
    have r1 := hr2.cell 1
    have fr := hr2.frozen
    simp only [List.getElem?_toArray, List.getElem?_cons_zero, List.getElem?_cons_succ] at r0 r1
    have HA2 := Lib.hid hA2
    have HV := Lib.hid hv
    have HR2 := Lib.hid hr2
    have HF3 := Lib.hid hF3
    have z2 : w.heap.size + 1 < w2.heap.size := by omega
    have z3 : ¬ w.heap.size + 1 = w2.heap.size := by omega
    have z4 : ¬ w2.heap.size = w.heap.size + 1 := by omega
    clear hA2 hF2 hv hr2 hF3 HA1 HB11 HX1 HF1 x0 x1 z1 k0
    obtain ⟨q1, q2, q3, q4⟩ := do_res HR2.out HA2.out HF3.out HV.out hbs hgs (.int .i64 p.1) (.int .u64 p.2)
    have Q1 := Lib.hid q1
    have Q2 := Lib.hid q2
    have Q3 := Lib.hid q3
    have Q4 := Lib.hid q4
    clear q1 q2 q3 q4
    go_wp2
    all_goals (
      refine bodyPost_ret (results_cell_row3 rfl _ _ (w.heap.size + 1) 34 _ (0, 0) _ rfl (Blk.alloc Q1.out _) Tryd.underlying34 rfl (by kernel_rfl)) rfl ?_
      exact ⟨⟨_, rfl, errV_keep Q2.out ((Below.refl _ _).alloc (Nat.le_refl _) _)⟩, ⟨Q3.out.ne, Q3.out.blk.alloc _, Q3.out.row.alloc _⟩, Q4.out.alloc _⟩)
  · refine (slots_add HA1.out hf ho).mono ?_
    rintro e w2 ⟨⟨v, rfl, hv⟩, hA2, hF2⟩
    have hr2 := HB11.out.fr hF2 (by rintro (e | e) <;> omega)
    have hF3 := HF1.out.trans hF2 (fun i hi => .inl hi)
    have r0 := hr2.cell 0
    have r1 := hr2.cell 1
    have fr := hr2.frozen
    simp only [List.getElem?_toArray, List.getElem?_cons_zero, List.getElem?_cons_succ] at r0 r1
    obtain ⟨q1, q2, q3, q4⟩ := do_res hr2 hA2 hF3 hv hbs hgs (.int .i64 0) (.int .u64 0)
    have Q1 := Lib.hid q1
    have Q2 := Lib.hid q2
    have Q3 := Lib.hid q3
    have Q4 := Lib.hid q4
    clear q1 q2 q3 q4 hA2 hF2 hv hr2 hF3 HA1 HB11 HX1 HF1 x0 x1 z1 k0
    go_wp2
    all_goals (
      refine bodyPost_ret (results_cell_row3 rfl _ _ (w.heap.size + 1) 34 _ (0, 0) _ rfl Q1.out Tryd.underlying34 rfl (by kernel_rfl)) rfl ?_
      exact ⟨⟨_, rfl, Q2.out⟩, Q3.out, Q4.out⟩)
  · refine (slots_drop HA1.out hf ho).mono ?_
    rintro e w2 ⟨⟨v, rfl, hv⟩, hA2, hF2⟩
    have hr2 := HB11.out.fr hF2 (by rintro (e | e) <;> omega)
    have hF3 := HF1.out.trans hF2 (fun i hi => .inl hi)
    have r0 := hr2.cell 0
    have r1 := hr2.cell 1
    have fr := hr2.frozen
    simp only [List.getElem?_toArray, List.getElem?_cons_zero, List.getElem?_cons_succ] at r0 r1
    obtain ⟨q1, q2, q3, q4⟩ := do_res hr2 hA2 hF3 hv hbs hgs (.int .i64 0) (.int .u64 0)
    have Q1 := Lib.hid q1
    have Q2 := Lib.hid q2
    have Q3 := Lib.hid q3
    have Q4 := Lib.hid q4
    clear q1 q2 q3 q4 hA2 hF2 hv hr2 hF3 HA1 HB11 HX1 HF1 x0 x1 z1 k0
    go_wp2
    all_goals (
      refine bodyPost_ret (results_cell_row3 rfl _ _ (w.heap.size + 1) 34 _ (0, 0) _ rfl Q1.out Tryd.underlying34 rfl (by kernel_rfl)) rfl ?_
      exact ⟨⟨_, rfl, Q2.out⟩, Q3.out, Q4.out⟩)
  · refine (slots_count HA1.out hf ho).mono ?_
    rintro e w2 ⟨⟨v, rfl, hv⟩, hA2, hF2⟩
    have hr2 := HB11.out.fr hF2 (by rintro (e | e) <;> omega)
    have hF3 := HF1.out.trans hF2 (fun i hi => .inl hi)
    have r0 := hr2.cell 0
    have r1 := hr2.cell 1
    have fr := hr2.frozen
    simp only [List.getElem?_toArray, List.getElem?_cons_zero, List.getElem?_cons_succ] at r0 r1
    obtain ⟨q1, q2, q3, q4⟩ := do_res hr2 hA2 hF3 hv hbs hgs (.int .i64 0) (.int .u64 0)
    have Q1 := Lib.hid q1
    have Q2 := Lib.hid q2
    have Q3 := Lib.hid q3
    have Q4 := Lib.hid q4
    clear q1 q2 q3 q4 hA2 hF2 hv hr2 hF3 HA1 HB11 HX1 HF1 x0 x1 z1 k0
    go_wp2
    all_goals (
      refine bodyPost_ret (results_cell_row3 rfl _ _ (w.heap.size + 1) 34 _ (0, 0) _ rfl Q1.out Tryd.underlying34 rfl (by kernel_rfl)) rfl ?_
      exact ⟨⟨_, rfl, Q2.out⟩, Q3.out, Q4.out⟩)
end Go.Proofs.YtkmmnmicmjohgaaDoor
