/- (*Table).Release. -/
import Derived.Test.YtlpjjbkpoaohnaaDoorTabTell
set_option linter.unusedVariables false
set_option linter.unusedSimpArgs false
namespace Go.Proofs.YtlpjjbkpoaohnaaDoor
open Go.RowKit Slots

/-- What stands in Release: the table, the handle's box. -/
structure ReSt (w w1 : World) (A : TA) (t : Tb) (a : Int × Int) : Prop where
  tb : TbM w1 A t
  hb : Blk w1 w.heap.size 50 #[.int .i64 a.1, .int .u64 a.2]
  fr : Fr w w1 A.fp
theorem ReSt.start {w : World} {A : TA} {t : Tb} (h : TbM w A t) (a : Int × Int) : ReSt w (w.alloc (.cells #[.int .i64 a.1, .int .u64 a.2] 50)) A t a :=
  ⟨h.keep ((Below.refl w.heap.size w).alloc (Nat.le_refl _) _), Blk.new w _ _, (Fr.refl w A.fp).alloc _⟩
section
variable {w w1 w2 : World} {A : TA} {t : Tb} {a : Int × Int}
theorem ReSt.keep (h : ReSt w w1 A t a) (hb : Below w1.heap.size w1 w2) : ReSt w w2 A t a := ⟨h.tb.keep hb, h.hb.keep hb, h.fr.trans (Fr.of_below hb A.fp) (fun _ hi => .inl hi)⟩
theorem ReSt.drew (h : ReSt w w1 A t a) : ReSt w w1.drew A t a := h.keep (Below.refl _ _).drew
theorem ReSt.slotsTo {s' : St} (h : ReSt w w1 A t a) (hA : At w2 A.sb A.sg s') (hF : Fr w1 w2 (fun i => i = A.sb ∨ i = A.sg)) : ReSt w w2 A { t with s := s' } a :=
  ⟨h.tb.slotsTo hA hF, h.hb.fr hF (fun e => h.tb.apart h.hb (by decide) (by decide) (e.elim .inl fun e => .inr (.inl e))), h.fr.trans hF (fun i hi => .inl (hi.elim .inl fun e => .inr (.inl e)))⟩
theorem ReSt.cells (h : ReSt w w1 A t a) : w1.cell? ⟨w.heap.size, 0, none⟩ = some (.int .i64 a.1) ∧ w1.cell? ⟨w.heap.size, 1, none⟩ = some (.int .u64 a.2) := by
  refine ⟨?_, ?_⟩ <;> (rw [h.hb.cell]; rfl)
end
theorem release_nil (a : Int × Int) (w : World) :
    Calls Tryd.prog 22 #[.pointer none, .agg #[.int .i64 a.1, .int .u64 a.2]] w fun e w' => (∃ v, e = .returned v ∧ ErrT w' (some 1) v) ∧ Below w.heap.size w w' := by
  have H0 := Lib.hid ((Below.refl w.heap.size w).alloc (Nat.le_refl _) (.cells #[.int .i64 a.1, .int .u64 a.2] 50))
  go_enter Tryd.func22, Tryd.ntmps22
  go_wp2_with fail
  refine (wrap_num _ 1 _).mono ?_
  rintro e w1 ⟨N, rfl, hc, hb⟩
  have HC := Lib.hid hc
  have HB := Lib.hid (belowOn H0.out H0.out.size hb)
  clear hc hb H0
  go_wp2_with fail
  go_ret
  exact ⟨⟨_, rfl, _, HC.out⟩, HB.out⟩

/-- An entry is taken out of the table. -/
theorem TbM.remove {w w' : World} {A : TA} {t : Tb} (h : TbM w A t) (kn : (t.l.map (·.k)).Nodup) (sn : (t.l.map (·.h.1)).Nodup) {e : Ent} (he : e ∈ t.l) {m : Nat} (hm : A.ms[stripeN e.k t.n]? = some m)
    (h1 : MapK Value.string w' m (delK e.k ((t.l.filter fun f => decide (stripeN f.k t.n = stripeN e.k t.n)).map Ent.inK))) (h2 : MapS (Value.int .i64) w' A.yb (delK e.h.1 (t.l.map Ent.byK)))
    (hs : ∀ i, i < w.heap.size → i ≠ m → i ≠ A.yb → w'.heap[i]? = w.heap[i]?) : TbM w' A { t with l := t.l.filter fun f => decide (f.h.1 ≠ e.h.1) } := by
  obtain ⟨cur, h3, h4⟩ := h.row
  have hmm : MapK Value.string w m _ := h.st _ m hm
  have hap : ∀ {g : Nat} {T : TypeId} {cs : Array Value}, Blk w g T cs → Blk w' g T cs := fun hg => (hs _ hg.lt (fun e => hmm.ne_blk hg e.symm) (fun e => h.by_.k.ne_blk hg e.symm)).trans hg
  refine ⟨hap h.blk, ⟨h.slots.ne, hap h.slots.blk, hap h.slots.row⟩, ⟨cur, hap h3, h4⟩, h.len, ?_, fun j m' hj => ?_, fun f hf => ?_, h.nd, h.ny⟩
  · rw [delBy _ _ sn] at h2
    exact h2
  · by_cases ej : j = stripeN e.k t.n
    · subst ej
      obtain rfl : m = m' := by rw [hm] at hj; injection hj
      rw [delIn t.n he kn sn _ rfl] at h1
      exact h1
    · have hne : m' ≠ m := fun e1 => ej (by
        subst e1
        have i1 := (List.getElem?_eq_some_iff.1 hj).1
        exact (List.getElem_inj h.nd).1 (((List.getElem?_eq_some_iff.1 hj).2).trans ((List.getElem?_eq_some_iff.1 hm).2).symm))
      have hny : m' ≠ A.yb := fun e1 => h.ny (by rw [← e1]; exact List.mem_of_getElem? hj)
      have h5 := (h.st j m' hj).at_ (hs m' (h.st j m' hj).lt hne hny)
      show MapK Value.string w' m' (((t.l.filter fun f => decide (f.h.1 ≠ e.h.1)).filter (fun f => decide (stripeN f.k t.n = j))).map Ent.inK)
      rw [delOther t.n he kn sn j ej]
      exact h5
  · have hf := (List.mem_filter.1 hf).1
    exact ⟨hap (h.ents f hf).1, (h.ents f hf).2⟩

set_option maxRecDepth 100000 in
set_option maxHeartbeats 2000000 in
theorem release_calls {w : World} {A : TA} {t : Tb} {x : Rf} {K : Int} (h : TbM w A t) (hok : t.Ok K x) (hK : K ≤ 999998) (a : Int × Int) :
    Calls Tryd.prog 22 #[.pointer (some ⟨A.b, 0, none⟩), .agg #[.int .i64 a.1, .int .u64 a.2]] w fun e w' =>
      (∃ v, e = .returned v ∧ ErrT w' (t.release a).2 v) ∧ TbM w' A (t.release a).1 ∧ Fr w w' A.fp := by
  have hfine := hok.fine (by omega)
  have S0 := ReSt.start h a
  have c0 := S0.tb.c0
  obtain ⟨y0, y1⟩ := S0.cells
  have HC := Lib.hid (fun w1 (hA : At w1 A.sb A.sg t.s) => slots_drop hA hfine a)
  by_cases hk : t.s.ok a
  · have hst : st t.s a = none := by unfold st; rw [if_pos hk]
    rw [hst] at HC
    obtain ⟨n, hn⟩ : ∃ n, (t.s.turn a (-1)).2.getD 0 = n := ⟨_, rfl⟩
    rw [hn] at HC
    by_cases hz : n = 0
    · have hrel : t.release a = ({ t with s := (t.s.turn a (-1)).1, l := t.l.filter fun e => decide (e.h.1 ≠ a.1) }, none) := by unfold Tb.release; rw [if_pos hk, hn, if_pos hz]
      obtain ⟨e0, hsl, he, hea⟩ := hok.entry hk
      have hks := hok.ks e0 he
      obtain ⟨m, hm⟩ := h.stripe e0.k hok.n1
      subst hz
      rw [hrel]
      have HE := Lib.hid he
      have HM := Lib.hid hm
      have HSL := Lib.hid hsl
      have HEA := Lib.hid hea
      have HOK := Lib.hid hok
      generalize (t.s.turn a (-1)).1 = s' at HC ⊢
      have S0 := Lib.hid S0
      clear h hok hfine hk hst hrel hn he hm hsl hea
      generalize hW : w.alloc (.cells #[.int .i64 a.1, .int .u64 a.2] 50) = W at *
      go_enter Tryd.func22, Tryd.ntmps22
      go_wp2_with fail
      clear hW
      go_region_held3 (fun w' => w'.cell? ⟨A.b, 0, none⟩ = some (.pointer (some ⟨A.sb, 0, none⟩)) ∧ w'.cell? ⟨w.heap.size, 0, none⟩ = some (.int .i64 a.1) ∧ w'.cell? ⟨w.heap.size, 1, none⟩ = some (.int .u64 a.2))
        (first | exact ⟨c0, y0, y1⟩ | exact ⟨c01, y01, y11⟩ | go_keep)
        (first
          | (go_at_call 38; refine (HC.out _ S0.out.drew.tb.slots).mono ?_; rintro e w1 ⟨⟨v, rfl, hv⟩, hA, hF⟩; have hS1 := S0.out.drew.slotsTo hA hF; have S1 := Lib.hid hS1; have c01 := hS1.tb.c0; have y01 := hS1.cells.1; have y11 := hS1.cells.2; have hv2 : v = .nilIface := hv; subst hv2; clear hS1 hv hA hF))
      all_goals (
        have c21 := S1.out.drew.tb.c2
        have y02 := S1.out.drew.cells.1
        have hby := S1.out.drew.tb.bySlot a.1
        rw [show ({ s := s', l := t.l, n := t.n } : Tb).slot a.1 = some e0 from HSL.out] at hby
        simp only [Option.map_some, Option.getD_some, ptr] at hby
        have hent := S1.out.drew.tb.ents e0 HE.out
        have k0 := (ent_at hent.1 hent.2).1
        have HS := Lib.hid (tstripe_calls S1.out.drew.tb HOK.out.n1 HOK.out.n2 e0.k hks HM.out)
        clear hent
        go_wp2_with fail)
      all_goals (
        go_region_held3 (fun w' => w'.cell? ⟨A.b, 2, none⟩ = some (.map (some A.yb)) ∧ w'.cell? ⟨w.heap.size, 0, none⟩ = some (.int .i64 a.1) ∧ w'.cell? ⟨e0.a, 0, none⟩ = some (.string e0.k) ∧ (Instr.lookup 81 (.map (some A.yb)) (.int .i64 a.1) false).run Tryd.prog w' = .ok (.pointer (some ⟨e0.a, 0, none⟩)) w')
          (first | exact ⟨c21, y02, k0, hby⟩ | exact ⟨c22, y03, k02, hby2⟩ | exact ⟨c23, y04, k03, hby3⟩ | go_keep)
          (first
            | (go_at_call 33; refine HS.out.mono ?_; rintro e w2 ⟨rfl, hb⟩; have hS2 := S1.out.drew.keep hb; have S2 := Lib.hid hS2; have c22 := hS2.tb.c2; have y03 := hS2.cells.1; have hby2 := hS2.tb.bySlot a.1; rw [show ({ s := s', l := t.l, n := t.n } : Tb).slot a.1 = some e0 from HSL.out] at hby2; simp only [Option.map_some, Option.getD_some, ptr] at hby2; have hent2 := hS2.tb.ents e0 HE.out; have k02 := (ent_at hent2.1 hent2.2).1; obtain ⟨w3, hr3, hm3, hg3, hz3⟩ := run_delK (P := Tryd.prog) (ty := 0) (κ := ByteArray) (kf := Value.string) (d := .string) Tryd.underlying85 Tryd.underlying9 (hS2.tb.st _ m HM.out) e0.k; have hny := (fun e => hS2.tb.ny (by injection e with e; rw [e]; exact List.mem_of_getElem? HM.out) : some A.yb ≠ some m); have hmm := hS2.tb.st _ m HM.out; have hb3 := hS2.tb.blk.grown hg3 (fun e => hmm.ne_blk hS2.tb.blk (by injection e with e; exact e.symm)); have hx3 := hS2.hb.grown hg3 (fun e => hmm.ne_blk hS2.hb (by injection e with e; exact e.symm)); have he3 := hent2.1.grown hg3 (fun e => hmm.ne_blk hent2.1 (by injection e with e; exact e.symm)); have hy3 := hS2.tb.by_.grown hg3 hny; have c23 := hb3.cell 2; have y04 := hx3.cell 0; have k03 := (ent_at he3 hent2.2).1; have hby3 := run_lookK (P := Tryd.prog) (d := .int .i64) (kf := Value.int .i64) false Tryd.underlying81 Tryd.underlying3 (z := .pointer none) (zero_ent w3) hy3.k a.1; rw [lookBy, show t.l.find? (fun e => decide (e.h.1 = a.1)) = some e0 from HSL.out] at hby3; simp only [List.getElem?_toArray, List.getElem?_cons_zero, List.getElem?_cons_succ] at c23 y04; simp only [Option.map_some, Option.getD_some, ptr, Bool.false_eq_true, if_false] at hby3; have HM3 := Lib.hid hm3; have HG3 := Lib.hid hg3; have HNY := Lib.hid hny; have HB3 := Lib.hid hb3; have HX3 := Lib.hid hx3; have HY3 := Lib.hid hy3; clear hS2 hent2 hb hm3 hg3 hz3 hny hmm hb3 hx3 he3 hy3)))
      all_goals (
        obtain ⟨w4, hr4, hm4, hg4, hz4⟩ := run_delS (P := Tryd.prog) (ty := 0) (κ := Int) (kf := Value.int .i64) (d := .int .i64) Tryd.underlying81 Tryd.underlying3 (HY3.out.keep (Below.refl _ w3).drew) a.1
        have hf4 : Fr w2 w4 (fun i => i = m ∨ i = A.yb) := (((Fr.refl w2 (fun i => i = m ∨ i = A.yb)).grown HG3.out (fun k e => .inl (.inl (by injection e with e; exact e.symm)))).drew).grown hg4 (fun k e => .inl (.inr (by injection e with e; exact e.symm)))
        have hmm := S2.out.tb.st _ m HM.out
        have hb4 := S2.out.tb.blk.fr hf4 (by rintro (e | e); exact hmm.ne_blk S2.out.tb.blk e.symm; exact S2.out.tb.by_.k.ne_blk S2.out.tb.blk e.symm)
        have hx4 := S2.out.hb.fr hf4 (by rintro (e | e); exact hmm.ne_blk S2.out.hb e.symm; exact S2.out.tb.by_.k.ne_blk S2.out.hb e.symm)
        have c24 := hb4.cell 2
        have y05 := hx4.cell 0
        simp only [List.getElem?_toArray, List.getElem?_cons_zero, List.getElem?_cons_succ] at c24 y05
        have hT4 : TbM w4 A { s := s', l := t.l.filter fun f => decide (f.h.1 ≠ e0.h.1), n := t.n } := by
          refine TbM.remove (t := { s := s', l := t.l, n := t.n }) S2.out.tb HOK.out.kn HOK.out.sn HE.out HM.out ((HM3.out.drew).grown hg4 (fun e => HNY.out e.symm)) ?_ (fun i hi h1 h2 => hf4.block i hi (by rintro (e | e); exact h1 e; exact h2 e))
          rw [HEA.out]
          exact hm4
        rw [HEA.out] at hT4
        have HT4 := Lib.hid hT4
        have HF4 := Lib.hid hf4
        clear hm4 hg4 hz4 hf4 hmm hb4 hx4 hT4
        go_wp2_with fail
        go_region_held3 (fun w' => w'.cell? ⟨A.b, 2, none⟩ = some (.map (some A.yb)) ∧ w'.cell? ⟨w.heap.size, 0, none⟩ = some (.int .i64 a.1))
          (first | exact ⟨c23, y04⟩ | exact ⟨c24, y05⟩ | go_keep)
          (fail))
      all_goals (
        go_wp2_with fail
        go_ret
        refine ⟨⟨_, rfl, rfl⟩, HT4.out, S2.out.fr.trans HF4.out ?_⟩
        rintro i (rfl | rfl)
        · exact .inl (.inr (.inr (.inr (List.mem_of_getElem? HM.out))))
        · exact .inl (.inr (.inr (.inl rfl))))
    · have hrel : t.release a = ({ t with s := (t.s.turn a (-1)).1 }, none) := by unfold Tb.release; rw [if_pos hk, hn, if_neg hz]
      rw [hrel]
      generalize (t.s.turn a (-1)).1 = s' at HC ⊢
      have S0 := Lib.hid S0
      clear h hok hfine hk hst hrel hn
      generalize hW : w.alloc (.cells #[.int .i64 a.1, .int .u64 a.2] 50) = W at *
      go_enter Tryd.func22, Tryd.ntmps22
      go_wp2_with fail
      clear hW
      go_region_held3 (fun w' => w'.cell? ⟨A.b, 0, none⟩ = some (.pointer (some ⟨A.sb, 0, none⟩)) ∧ w'.cell? ⟨w.heap.size, 0, none⟩ = some (.int .i64 a.1) ∧ w'.cell? ⟨w.heap.size, 1, none⟩ = some (.int .u64 a.2))
        (first | exact ⟨c0, y0, y1⟩ | exact ⟨c01, y01, y11⟩ | go_keep)
        (first
          | (go_at_call 38; refine (HC.out _ S0.out.drew.tb.slots).mono ?_; rintro e w1 ⟨⟨v, rfl, hv⟩, hA, hF⟩; have hS1 := S0.out.drew.slotsTo hA hF; have S1 := Lib.hid hS1; have c01 := hS1.tb.c0; have y01 := hS1.cells.1; have y11 := hS1.cells.2; have hv2 : v = .nilIface := hv; subst hv2; clear hS1 hv hA hF))
      all_goals (
        go_wp2_with fail
        go_ret
        exact ⟨⟨_, rfl, rfl⟩, S1.out.tb, S1.out.fr⟩)
  · have hst : st t.s a = some 7 := by unfold st; rw [if_neg hk]
    have hrel : t.release a = (t, some 7) := by unfold Tb.release; rw [if_neg hk]
    have htn : t.s.turn a (-1) = (t.s, none) := turn_bad hk (-1)
    rw [hst, htn] at HC
    rw [hrel]
    have S0 := Lib.hid S0
    clear h hok hfine hk hst hrel htn
    · skip
      generalize hW : w.alloc (.cells #[.int .i64 a.1, .int .u64 a.2] 50) = W at *
      go_enter Tryd.func22, Tryd.ntmps22
      go_wp2_with fail
      clear hW
      go_region_held3 (fun w' => w'.cell? ⟨A.b, 0, none⟩ = some (.pointer (some ⟨A.sb, 0, none⟩)) ∧ w'.cell? ⟨w.heap.size, 0, none⟩ = some (.int .i64 a.1) ∧ w'.cell? ⟨w.heap.size, 1, none⟩ = some (.int .u64 a.2))
        (first | exact ⟨c0, y0, y1⟩ | exact ⟨c01, y01, y11⟩ | go_keep)
        (first
          | (go_at_call 38; refine (HC.out _ S0.out.drew.tb.slots).mono ?_; rintro e w1 ⟨⟨v, rfl, hv⟩, hA, hF⟩; have hS1 := S0.out.drew.slotsTo hA hF; have S1 := Lib.hid hS1; have c01 := hS1.tb.c0; have y01 := hS1.cells.1; have y11 := hS1.cells.2; obtain ⟨t0, x0, hx0⟩ := Chain.iface hv; subst hx0; have HV := Lib.hid hv; clear hS1 hv hA hF))
      all_goals (
        go_wp2_with fail
        refine (wrap_chain tableB HV.out).mono ?_
        rintro e w2 ⟨z, rfl, hc, hb⟩
        have HC2 := Lib.hid hc
        have HB2 := Lib.hid hb
        clear hc hb
        go_wp2_with fail
        go_ret
        exact ⟨⟨_, rfl, _, HC2.out⟩, S1.out.tb.keep HB2.out, (S1.out.keep HB2.out).fr⟩)
end Go.Proofs.YtlpjjbkpoaohnaaDoor
