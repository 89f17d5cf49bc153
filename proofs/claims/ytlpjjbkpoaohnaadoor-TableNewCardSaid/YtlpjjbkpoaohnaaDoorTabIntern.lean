/- (*Table).Intern. -/
import Derived.Test.YtlpjjbkpoaohnaaDoorTabTell
set_option linter.unusedVariables false
set_option linter.unusedSimpArgs false
namespace Go.Proofs.YtlpjjbkpoaohnaaDoor
open Go.RowKit Slots

/-- What stands ahead of Intern's calls: the URL's box, the result's. -/
structure InSt (w w1 : World) (A : TA) (t : Tb) (u : Array Value) (x y : Value) : Prop where
  tb : TbM w1 A t
  ub : Blk w1 w.heap.size 62 u
  rb : Blk w1 (w.heap.size + 1) 50 #[x, y]
  fr : Fr w w1 A.fp
theorem InSt.start {w : World} {A : TA} {t : Tb} (h : TbM w A t) (u : Array Value) : InSt w ((w.alloc (.cells u 62)).alloc (.cells #[.int .i64 0, .int .u64 0] 50)) A t u (.int .i64 0) (.int .u64 0) := by
  refine ⟨(h.keep ((Below.refl w.heap.size w).alloc (Nat.le_refl _) _)).keep ((Below.refl _ _).alloc (Nat.le_refl _) _), (Blk.new w _ _).alloc _, ?_, ((Fr.refl w A.fp).alloc _).alloc _⟩
  have := Blk.new (w.alloc (.cells u 62)) 50 #[.int .i64 0, .int .u64 0]
  simpa using this
section
variable {w w1 w2 : World} {A : TA} {t : Tb} {u : Array Value} {x y : Value}
theorem InSt.keep (h : InSt w w1 A t u x y) (hb : Below w1.heap.size w1 w2) : InSt w w2 A t u x y := ⟨h.tb.keep hb, h.ub.keep hb, h.rb.keep hb, h.fr.trans (Fr.of_below hb A.fp) (fun _ hi => .inl hi)⟩
theorem InSt.drew (h : InSt w w1 A t u x y) : InSt w w1.drew A t u x y := h.keep (Below.refl _ _).drew
theorem InSt.slotsTo {s' : St} (h : InSt w w1 A t u x y) (hA : At w2 A.sb A.sg s') (hF : Fr w1 w2 (fun i => i = A.sb ∨ i = A.sg)) : InSt w w2 A { t with s := s' } u x y :=
  ⟨h.tb.slotsTo hA hF, h.ub.fr hF (fun e => h.tb.apart h.ub (by decide) (by decide) (e.elim .inl fun e => .inr (.inl e))), h.rb.fr hF (fun e => h.tb.apart h.rb (by decide) (by decide) (e.elim .inl fun e => .inr (.inl e))), h.fr.trans hF (fun i hi => .inl (hi.elim .inl fun e => .inr (.inl e)))⟩
/-- The result is written. -/
theorem InSt.res (h : InSt w w1 A t u x y) (x' y' : Value) : InSt w ((w1.setCell ⟨w.heap.size + 1, 0, none⟩ x').setCell ⟨w.heap.size + 1, 1, none⟩ y') A t u x' y' := by
  have hs : ∀ i, i ≠ w.heap.size + 1 → ((w1.setCell ⟨w.heap.size + 1, 0, none⟩ x').setCell ⟨w.heap.size + 1, 1, none⟩ y').heap[i]? = w1.heap[i]? := fun i hi => (Below.heap_setCell (w1.setCell ⟨w.heap.size + 1, 0, none⟩ x') ⟨w.heap.size + 1, 1, none⟩ y' i hi).trans (Below.heap_setCell w1 ⟨w.heap.size + 1, 0, none⟩ x' i hi)
  exact ⟨h.tb.blk_ h.rb (by decide) hs, (hs _ (by omega)).trans h.ub, (h.rb.set_ 0 x').set_ 1 y', (h.fr.setCell (p := ⟨w.heap.size + 1, 0, none⟩) (.inr (by simp)) x').setCell (p := ⟨w.heap.size + 1, 1, none⟩) (.inr (by simp)) y'⟩
theorem InSt.chain {l : List ByteArray} {v : Value} {c : Int} (h : InSt w w1 A t u x y) (hc : Chain w1 l v c) (x' y' : Value) : Chain ((w1.setCell ⟨w.heap.size + 1, 0, none⟩ x').setCell ⟨w.heap.size + 1, 1, none⟩ y') l v c := res_chain h.rb hc x' y'
theorem InSt.cells (h : InSt w w1 A t u x y) : w1.cell? ⟨w.heap.size + 1, 0, none⟩ = some x ∧ w1.cell? ⟨w.heap.size + 1, 1, none⟩ = some y := by
  refine ⟨?_, ?_⟩ <;> (rw [h.rb.cell]; rfl)
end
theorem intern_nil (k : ByteArray) (u : Array Value) (w : World) :
    Calls Tryd.prog 19 #[.pointer none, .string k, .agg u] w fun e w' => (∃ v, e = .returned (.tuple #[.agg #[.int .i64 0, .int .u64 0], v]) ∧ ErrT w' (some 1) v) ∧ Below w.heap.size w w' := by
  have hb0 : Blk ((w.alloc (.cells u 62)).alloc (.cells #[.int .i64 0, .int .u64 0] 50)) (w.heap.size + 1) 50 #[.int .i64 0, .int .u64 0] := by
    have := Blk.new (w.alloc (.cells u 62)) 50 #[.int .i64 0, .int .u64 0]
    simpa using this
  have HB0 := Lib.hid hb0
  have H0 := Lib.hid (((Below.refl w.heap.size w).alloc (Nat.le_refl _) (.cells u 62)).alloc (by simp) (.cells #[.int .i64 0, .int .u64 0] 50))
  clear hb0
  go_enter Tryd.func19, Tryd.ntmps19
  go_wp2_with fail
  refine (wrap_num _ 1 _).mono ?_
  rintro e w1 ⟨N, rfl, hc, hb⟩
  have hB1 := HB0.out.keep hb
  have HB1 := Lib.hid hB1
  have HC := Lib.hid hc
  have H1 := Lib.hid (belowOn H0.out H0.out.size hb)
  have c0 := hB1.cell 0
  have c1 := hB1.cell 1
  have f0 := hB1.frozen 0
  have f1 := hB1.frozen 1
  simp only [List.getElem?_toArray, List.getElem?_cons_zero, List.getElem?_cons_succ] at c0 c1
  clear hc hb HB0 H0 hB1
  go_wp2_with fail
  have HW := Lib.hid (res_set HB1.out H1.out (Nat.le_succ _) (.int .i64 0) (.int .u64 0))
  have HC2 := Lib.hid (res_chain HB1.out HC.out (.int .i64 0) (.int .u64 0))
  refine bodyPost_ret (results_cell_row2 rfl _ _ (w.heap.size + 1) 50 _ (0, 0) _ rfl HW.out.1 Tryd.underlying50 rfl (by kernel_rfl)) rfl ?_
  exact ⟨⟨_, rfl, _, HC2.out⟩, HW.out.2⟩

set_option maxRecDepth 100000 in
set_option maxHeartbeats 1000000 in
theorem intern_found {w : World} {A : TA} {t : Tb} {x : Rf} {K : Int} (h : TbM w A t) (hok : t.Ok K x) (hK : K ≤ 999998) (k : ByteArray) (hk : k.size ≤ 1000000) (u : Array Value) {e0 : Ent} (hf : t.look k = some e0) :
    Calls Tryd.prog 19 #[.pointer (some ⟨A.b, 0, none⟩), .string k, .agg u] w fun e w' =>
      e = .returned (.tuple #[.agg #[.int .i64 e0.h.1, .int .u64 e0.h.2], .nilIface]) ∧ TbM w' A { t with s := (t.s.turn e0.h 1).1 } ∧ Fr w w' A.fp := by
  obtain ⟨he, hek⟩ := look_some hf
  have hlive := (hok.live e0.h).2 ⟨e0, he, rfl⟩
  have hfine := hok.fine (by omega)
  obtain ⟨m, hm⟩ := h.stripe k hok.n1
  have S0 := InSt.start h u
  have HS := Lib.hid (tstripe_calls S0.tb hok.n1 hok.n2 k hk hm)
  have HA := Lib.hid (fun w1 (hA : At w1 A.sb A.sg t.s) => slots_add hA hfine e0.h)
  rw [show st t.s e0.h = none by unfold st; rw [if_pos hlive]] at HA
  have S0 := Lib.hid S0
  have HM := Lib.hid hm
  have HE := Lib.hid he
  have HF := Lib.hid hf
  clear h hok hm he hlive hfine hek hf
  go_enter Tryd.func19, Tryd.ntmps19
  go_wp2_with fail
  refine HS.out.mono ?_
  rintro e w1 ⟨rfl, hb⟩
  have S1 := Lib.hid (S0.out.keep hb)
  have hlook := S1.out.tb.lookup k HM.out true
  rw [HF.out] at hlook
  simp only [Option.map_some, Option.getD_some, Option.isSome_some, if_true, ptr] at hlook
  obtain ⟨a1, a2⟩ := S1.out.tb.ents e0 HE.out
  obtain ⟨x0, x1, x2, _⟩ := ent_at a1 a2
  have c0 := S1.out.tb.c0
  clear a1 a2 x0 hb HS S0
  go_wp2_with fail
  go_region_held3 (fun w' => w'.cell? ⟨A.b, 0, none⟩ = some (.pointer (some ⟨A.sb, 0, none⟩)) ∧ w'.cell? ⟨e0.a, 22, none⟩ = some (.int .i64 e0.h.1) ∧ w'.cell? ⟨e0.a, 23, none⟩ = some (.int .u64 e0.h.2))
    (first | exact ⟨c0, x1, x2⟩ | exact ⟨c02, x12, x22⟩ | go_keep)
    (first
      | (go_at_call 36; refine (HA.out _ S1.out.drew.tb.slots).mono ?_; rintro e w2 ⟨⟨v, rfl, hv⟩, hA, hF⟩; have hv2 : v = .nilIface := hv; subst hv2; have hS2 := S1.out.drew.slotsTo hA hF; have S2 := Lib.hid hS2; have c02 := hS2.tb.c0; have hent := hS2.tb.ents e0 HE.out; have hcl := ent_at hent.1 hent.2; have x12 := hcl.2.1; have x22 := hcl.2.2.1; have r0 := hS2.cells.1; have r1 := hS2.cells.2; have rf := hS2.rb.frozen; clear hS2 hent hcl hv hA hF))
  all_goals (
    go_wp2_with fail
    have S3 := S2.out.res (.int .i64 e0.h.1) (.int .u64 e0.h.2)
    refine bodyPost_ret (results_cell_row2 rfl _ _ (w.heap.size + 1) 50 _ (0, 0) _ rfl S3.rb Tryd.underlying50 rfl (by kernel_rfl)) rfl ?_
    exact ⟨rfl, S3.tb, S3.fr⟩)

set_option maxRecDepth 100000 in
set_option maxHeartbeats 1000000 in
theorem intern_full {w : World} {A : TA} {t : Tb} {x : Rf} {K : Int} (h : TbM w A t) (hok : t.Ok K x) (hK : K ≤ 999998) (k : ByteArray) (hk : k.size ≤ 1000000) (u : Array Value) (hf : t.look k = none) (h0 : t.s.left = 0) :
    Calls Tryd.prog 19 #[.pointer (some ⟨A.b, 0, none⟩), .string k, .agg u] w fun e w' =>
      (∃ v, e = .returned (.tuple #[.agg #[.int .i64 0, .int .u64 0], v]) ∧ ErrT w' (some 8) v) ∧ TbM w' A t ∧ Fr w w' A.fp := by
  obtain ⟨m, hm⟩ := h.stripe k hok.n1
  have S0 := InSt.start h u
  have HS := Lib.hid (tstripe_calls S0.tb hok.n1 hok.n2 k hk hm)
  have HA := Lib.hid (fun w1 (hA : At w1 A.sb A.sg t.s) => slots_take_full hA h0)
  have S0 := Lib.hid S0
  have HM := Lib.hid hm
  have HF := Lib.hid hf
  clear h hok hm hf h0
  go_enter Tryd.func19, Tryd.ntmps19
  go_wp2_with fail
  refine HS.out.mono ?_
  rintro e w1 ⟨rfl, hb⟩
  have S1 := Lib.hid (S0.out.keep hb)
  have hlook := S1.out.tb.lookup k HM.out true
  rw [HF.out] at hlook
  simp only [Option.map_none, Option.getD_none, Option.isSome_none, if_true] at hlook
  have c0 := S1.out.tb.c0
  clear hb HS S0
  go_wp2_with fail
  refine (HA.out _ S1.out.tb.slots).mono ?_
  rintro e w2 ⟨⟨v, rfl, hv⟩, hb⟩
  have S2 := Lib.hid (S1.out.keep hb)
  obtain ⟨t0, x0, hx0⟩ := hv.iface
  subst hx0
  have HV := Lib.hid hv
  clear hb hv hlook c0 S1
  go_wp2_with fail
  have S3 := Lib.hid (S2.out.keep ((Below.refl _ w2).alloc (Nat.le_refl _) (.cells #[.int .i64 0, .int .u64 0] 50)))
  have HV3 := Lib.hid (HV.out.keep ((Below.refl _ w2).alloc (Nat.le_refl _) (.cells #[.int .i64 0, .int .u64 0] 50)))
  refine (wrap_chain tableB HV3.out).mono ?_
  rintro e w3 ⟨z, rfl, hc, hb⟩
  have hS4 := S3.out.keep hb
  have S4 := Lib.hid hS4
  have HC := Lib.hid hc
  have r0 := hS4.cells.1
  have r1 := hS4.cells.2
  have rf := hS4.rb.frozen
  clear hc hb S3 S2 HV HV3 hS4
  go_wp2_with fail
  have S5 := S4.out.res (.int .i64 0) (.int .u64 0)
  have HC5 := S4.out.chain HC.out (.int .i64 0) (.int .u64 0)
  refine bodyPost_ret (results_cell_row2 rfl _ _ (w.heap.size + 1) 50 _ (0, 0) _ rfl S5.rb Tryd.underlying50 rfl (by kernel_rfl)) rfl ?_
  exact ⟨⟨_, rfl, _, HC5⟩, S5.tb, S5.fr⟩
end Go.Proofs.YtlpjjbkpoaohnaaDoor
