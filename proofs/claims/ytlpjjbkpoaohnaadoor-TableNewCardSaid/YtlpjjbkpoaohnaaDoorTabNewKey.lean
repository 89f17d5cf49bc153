/- (*Table).Intern of a new key; Intern in one form. -/
import Derived.Test.YtlpjjbkpoaohnaaDoorTabIntern
set_option linter.unusedVariables false
set_option linter.unusedSimpArgs false
namespace Go.Proofs.YtlpjjbkpoaohnaaDoor
open Go.RowKit Slots

theorem built_known21 (k : ByteArray) (u0 u1 u2 u3 u4 u5 u6 u7 u8 u9 u10 u11 u12 u13 u14 u15 u16 u17 u18 u19 u20 : Value) : Tryd.prog.built 105 [(0, .string k), (1, .agg #[u0, u1, u2, u3, u4, u5, u6, u7, u8, u9, u10, u11, u12, u13, u14, u15, u16, u17, u18, u19, u20])] = some #[.string k, u0, u1, u2, u3, u4, u5, u6, u7, u8, u9, u10, u11, u12, u13, u14, u15, u16, u17, u18, u19, u20] := by kernel_rfl
theorem built_entry21 (k : ByteArray) (u0 u1 u2 u3 u4 u5 u6 u7 u8 u9 u10 u11 u12 u13 u14 u15 u16 u17 u18 u19 u20 x y : Value) : Tryd.prog.built 107 [(0, .agg #[.string k, u0, u1, u2, u3, u4, u5, u6, u7, u8, u9, u10, u11, u12, u13, u14, u15, u16, u17, u18, u19, u20]), (1, .agg #[x, y])] = some #[.string k, u0, u1, u2, u3, u4, u5, u6, u7, u8, u9, u10, u11, u12, u13, u14, u15, u16, u17, u18, u19, u20, x, y] := by kernel_rfl
theorem built_known (k : ByteArray) (u : Array Value) (hu : u.size = 21) : Tryd.prog.built 105 [(0, .string k), (1, .agg u)] = some (#[.string k] ++ u) := by
  obtain ⟨l⟩ := u
  match l, hu with
  | [u0, u1, u2, u3, u4, u5, u6, u7, u8, u9, u10, u11, u12, u13, u14, u15, u16, u17, u18, u19, u20], _ => simpa using built_known21 k u0 u1 u2 u3 u4 u5 u6 u7 u8 u9 u10 u11 u12 u13 u14 u15 u16 u17 u18 u19 u20
theorem built_entry (k : ByteArray) (u : Array Value) (hu : u.size = 21) (x y : Value) : Tryd.prog.built 107 [(0, .agg (#[.string k] ++ u)), (1, .agg #[x, y])] = some (#[.string k] ++ u ++ #[x, y]) := by
  obtain ⟨l⟩ := u
  match l, hu with
  | [u0, u1, u2, u3, u4, u5, u6, u7, u8, u9, u10, u11, u12, u13, u14, u15, u16, u17, u18, u19, u20], _ => simpa using built_entry21 k u0 u1 u2 u3 u4 u5 u6 u7 u8 u9 u10 u11 u12 u13 u14 u15 u16 u17 u18 u19 u20 x y
section
variable {ops : Array Oper} {rest : List Oper} {op : Oper} {a : Act} {w : World} {Q : Exit → Act → World → Prop}
theorem wpList_build2 {P : Program} {t : TypeId} {x y : Operand} {u v : Value} {cs : Array Value} (hb : P.built t [(0, u), (1, v)] = some cs) (hgd : op.guard = none) (ho : op.op = .build t #[(0, x), (1, y)]) (hx : a.eval x = u) (hy : a.eval y = v)
    (hK : wpList P ops Q rest (a.put op.dst (.agg cs)) w) : wpList P ops Q (op :: rest) a w := by
  refine wpList_plain hgd fun K' hK' => ?_
  have hrun := run_build (P := P) w t #[(0, u), (1, v)] cs (by simpa using hb)
  unfold Oper.wp execOp
  simp [ho, hx, hy, hrun, Result.andThen]
  exact hK' _ _ hK
end
/-- A new entry is in the table. -/
theorem TbM.add {w w' : World} {A : TA} {t : Tb} (h : TbM w A t) {e : Ent} {m : Nat} (hm : A.ms[stripeN e.k t.n]? = some m) (hno : t.look e.k = none)
    (he : Blk w' e.a 107 e.cells) (hu : UrlOk e.u) (h1 : MapK Value.string w' m (putK e.k (ptr e.a) ((t.l.filter fun f => decide (stripeN f.k t.n = stripeN e.k t.n)).map Ent.inK))) (h2 : MapS (Value.int .i64) w' A.yb (t.l.map Ent.byK ++ [(e.h.1, ptr e.a)]))
    (hs : ∀ i, i < w.heap.size → i ≠ m → i ≠ A.yb → w'.heap[i]? = w.heap[i]?) : TbM w' A { t with l := t.l ++ [e] } := by
  obtain ⟨cur, h3, h4⟩ := h.row
  have hmm : MapK Value.string w m _ := h.st _ m hm
  have hap : ∀ {g : Nat} {T : TypeId} {cs : Array Value}, Blk w g T cs → Blk w' g T cs := fun hg => (hs _ hg.lt (fun e => hmm.ne_blk hg e.symm) (fun e => h.by_.k.ne_blk hg e.symm)).trans hg
  refine ⟨hap h.blk, ⟨h.slots.ne, hap h.slots.blk, hap h.slots.row⟩, ⟨cur, hap h3, h4⟩, h.len, ?_, fun j m' hj => ?_, fun f hf => ?_, h.nd, h.ny⟩
  · simpa [Ent.byK] using h2
  · by_cases ej : j = stripeN e.k t.n
    · subst ej
      obtain rfl : m = m' := by rw [hm] at hj; injection hj
      rw [putK_new] at h1
      · simpa [Ent.inK] using h1
      · rw [lookIn]
        unfold Tb.look at hno
        rw [hno]
        rfl
    · have hne : m' ≠ m := fun e1 => ej (by
        subst e1
        have i1 := (List.getElem?_eq_some_iff.1 hj).1
        exact (List.getElem_inj h.nd).1 (((List.getElem?_eq_some_iff.1 hj).2).trans ((List.getElem?_eq_some_iff.1 hm).2).symm))
      have hny : m' ≠ A.yb := fun e1 => h.ny (by rw [← e1]; exact List.mem_of_getElem? hj)
      have h5 := (h.st j m' hj).at_ (hs m' (h.st j m' hj).lt hne hny)
      have : (t.l ++ [e]).filter (fun f => decide (stripeN f.k t.n = j)) = t.l.filter fun f => decide (stripeN f.k t.n = j) := by
        rw [List.filter_append]
        simp [Ne.symm ej]
      show MapK Value.string w' m' (((t.l ++ [e]).filter (fun f => decide (stripeN f.k t.n = j))).map Ent.inK)
      rw [this]
      exact h5
  · rcases List.mem_append.1 hf with hf | hf
    · exact ⟨hap (h.ents f hf).1, (h.ents f hf).2⟩
    · rw [List.mem_singleton] at hf
      subst hf
      exact ⟨he, hu⟩

set_option maxRecDepth 100000 in
set_option maxHeartbeats 1000000 in
theorem intern_new {w : World} {A : TA} {t : Tb} {x : Rf} {K : Int} (h : TbM w A t) (hok : t.Ok K x) (hK : K ≤ 999998) (k : ByteArray) (hk : k.size ≤ 1000000) (u : Array Value) (hu : UrlOk u) (hf : t.look k = none) (h0 : t.s.left ≠ 0) :
    Calls Tryd.prog 19 #[.pointer (some ⟨A.b, 0, none⟩), .string k, .agg u] w fun e w' =>
      ∃ a : Nat, e = .returned (.tuple #[.agg #[.int .i64 (t.s.take.2.getD (0, 0)).1, .int .u64 (t.s.take.2.getD (0, 0)).2], .nilIface]) ∧ TbM w' A (t.intern k u a).1 ∧ Fr w w' A.fp := by
  have hint : ∀ a, (t.intern k u a).1 = { t with s := t.s.take.1, l := t.l ++ [⟨k, u, t.s.take.2.getD (0, 0), a⟩] } := fun a => by unfold Tb.intern; rw [hf]; simp only [if_neg h0]
  simp only [hint]
  have hslot : ∀ e ∈ t.l, e.h.1 ≠ (t.s.take.2.getD (0, 0)).1 := by
    obtain ⟨n, c, hc, hc0, ht, _⟩ := ok_take hok.sim h0
    intro e he e1
    rw [ht] at e1
    have hk2 := ((hok.live e.h).2 ⟨e, he, rfl⟩).2.2.1
    unfold St.get at hk2
    rw [e1, Option.getD_some, Int.toNat_natCast, hc] at hk2
    exact hk2 hc0
  have hfine := hok.fine (by omega)
  obtain ⟨m, hm⟩ := h.stripe k hok.n1
  have S0 := InSt.start h u
  have HS := Lib.hid (tstripe_calls S0.tb hok.n1 hok.n2 k hk hm)
  have HA := Lib.hid (fun w1 (hA : At w1 A.sb A.sg t.s) => slots_take hA hfine)
  rw [if_neg h0] at HA
  obtain ⟨p, hp⟩ : ∃ p : Int × Int, t.s.take.2.getD (0, 0) = p := ⟨_, rfl⟩
  simp only [hp] at HA hslot ⊢
  have S0 := Lib.hid S0
  have HM := Lib.hid hm
  have HF := Lib.hid hf
  have HU := Lib.hid hu
  have HSL := Lib.hid hslot
  clear h hok hm hf h0 hfine hint hp hslot
  go_enter Tryd.func19, Tryd.ntmps19
  go_wp2_with fail
  refine HS.out.mono ?_
  rintro e w1 ⟨rfl, hb⟩
  have S1 := Lib.hid (S0.out.keep hb)
  have hlook := S1.out.tb.lookup k HM.out true
  rw [HF.out] at hlook
  simp only [Option.map_none, Option.getD_none, Option.isSome_none, if_true] at hlook
  have c0 := S1.out.tb.c0
  clear hb HS S0
  go_wp2_with fail
  refine (HA.out _ S1.out.tb.slots).mono ?_
  rintro e w2 ⟨⟨v, rfl, hv⟩, hA, hF⟩
  obtain rfl : v = .nilIface := hv
  have S2 := Lib.hid (S1.out.slotsTo hA hF)
  have hub := S2.out.ub
  clear hlook c0 S1 HA hA hF
  have hld : w2.rangeAt w.heap.size 0 u.toList := fun j v hv => by rw [hub.cell]; simpa using hv
  have hu1 := HU.out.1
  have hld2 : (w2.alloc (.cells #[.int .i64 p.1, .int .u64 p.2] 50)).rangeAt w.heap.size 0 u.toList := fun j v hv => by rw [(hub.alloc _).cell]; simpa using hv
  clear hub
  have hbk := built_known k u hu1
  have hbe := built_entry k u hu1 (.int .i64 p.1) (.int .u64 p.2)
  have HLD := Lib.hid hld2
  have HBK := Lib.hid hbk
  have HBE := Lib.hid hbe
  clear hld hld2 hbk hbe
  go_wp2_with (with_reducible (first | refine wpList_load_url HLD.out hu1 rfl _ rfl rfl ?_ | refine wpList_build2 HBK.out rfl rfl rfl rfl ?_ | refine wpList_build2 HBE.out rfl rfl rfl rfl ?_))
  have S3 := (S2.out.keep ((Below.refl _ w2).alloc (Nat.le_refl _) (.cells #[.int .i64 p.1, .int .u64 p.2] 50))).keep ((Below.refl _ _).alloc (Nat.le_refl _) (.cells (#[Value.string k] ++ (u ++ #[Value.int IntKind.i64 p.fst, Value.int IntKind.u64 p.snd])) 107))
  have hx0 := (Blk.new w2 50 #[.int .i64 p.1, .int .u64 p.2]).alloc (.cells (#[Value.string k] ++ (u ++ #[Value.int IntKind.i64 p.fst, Value.int IntKind.u64 p.snd])) 107)
  have he0 := Blk.new (w2.alloc (.cells #[.int .i64 p.1, .int .u64 p.2] 50)) 107 (#[Value.string k] ++ (u ++ #[Value.int IntKind.i64 p.fst, Value.int IntKind.u64 p.snd]))
  rw [show (w2.alloc (.cells #[.int .i64 p.1, .int .u64 p.2] 50)).heap.size = w2.heap.size + 1 by simp] at he0
  generalize (w2.alloc (.cells #[.int .i64 p.1, .int .u64 p.2] 50)).alloc (.cells (#[Value.string k] ++ (u ++ #[Value.int IntKind.i64 p.fst, Value.int IntKind.u64 p.snd])) 107) = W at S3 hx0 he0 ⊢
  have c2 := S3.tb.c2
  have x0 := hx0.cell 0
  have x1 := hx0.cell 1
  simp only [List.getElem?_toArray, List.getElem?_cons_zero, List.getElem?_cons_succ] at x0 x1
  have hny : some A.yb ≠ some m := fun e => S3.tb.ny (by injection e with e; rw [e]; exact List.mem_of_getElem? HM.out)
  have hmm := S3.tb.st _ m HM.out
  have hnm1 : ∀ {g : Nat} {T : TypeId} {cs : Array Value}, Blk W g T cs → ¬ (g = m ∨ g = A.yb) := fun hg => by
    rintro (rfl | rfl)
    · exact hmm.ne_blk hg rfl
    · exact S3.tb.by_.k.ne_blk hg rfl
  have hby := S3.tb.by_
  have hlk : lookK p.1 (t.l.map Ent.byK) = none := by
    rw [lookBy]
    have : t.l.find? (fun e => decide (e.h.1 = p.1)) = none := List.find?_eq_none.2 fun e he => by simpa using HSL.out e he
    rw [this]; rfl
  have kb := hnm1 S3.tb.blk
  have kx := hnm1 hx0
  have kr := hnm1 S3.rb
  have HRM := Lib.hid (fun e => kr (.inl e))
  have HRY := Lib.hid (fun e => kr (.inr e))
  clear kr
  have HB := Lib.hid S3.tb.blk
  have HX := Lib.hid hx0
  have HE := Lib.hid he0
  have S3 := Lib.hid S3
  have HMM := Lib.hid hmm
  have HBY := Lib.hid hby
  have HLK := Lib.hid hlk
  have HNY := Lib.hid hny
  have KB := Lib.hid kb
  have KX := Lib.hid kx
  have HKE := Lib.hid (hnm1 he0)
  clear hx0 he0 hny hmm hnm1 hby hlk kb kx HLD HBK HBE S2
  obtain ⟨w5, hr5, hm5, hg5, hz5⟩ := run_putK (P := Tryd.prog) (κ := ByteArray) (kf := Value.string) (d := .string) Tryd.underlying85 Tryd.underlying9 HMM.out.drew k (.pointer (some ⟨w2.heap.size + 1, 0, none⟩))
  have hy5 := ((HBY.out.keep (Below.refl _ _).drew).grown hg5 HNY.out)
  have hf5 := (Fr.refl W (fun i => i = m ∨ i = A.yb)).drew.grown hg5 (fun k e => .inl (.inl (by injection e with e; exact e.symm)))
  obtain ⟨stp, w6, hr6, hm6, hg6, hz6⟩ := run_entryS (P := Tryd.prog) (κ := Int) (kf := Value.int .i64) (d := .int .i64) Tryd.underlying81 Tryd.underlying3 (zero_ent w5) hy5 p.1 HLK.out
  have hf6 := hf5.grown hg6 (fun k e => .inl (.inr (by injection e with e; exact e.symm)))
  obtain ⟨w7, hr7, hm7, hg7, hz7⟩ := run_storeE (P := Tryd.prog) (κ := Int) (kf := Value.int .i64) 81 p.1 stp hm6 (.pointer (some ⟨w2.heap.size + 1, 0, none⟩))
  have hf7 := hf6.grown hg7 (fun k e => .inl (.inr (by injection e with e; exact e.symm)))
  have HM7 := Lib.hid ((hm5.grown hg6 (fun e => HNY.out e.symm)).grown hg7 (fun e => HNY.out e.symm))
  have HY7 := Lib.hid hm7
  have HF7 := Lib.hid hf7
  have hx7 := HX.out.fr hf7 KX.out
  have y0 := hx7.cell 0
  have y1 := hx7.cell 1
  have c25 := (HB.out.fr hf5 KB.out).cell 2
  have x05 := (HX.out.fr hf5 KX.out).cell 0
  have c26 := (HB.out.fr hf6 KB.out).cell 2
  have x06 := (HX.out.fr hf6 KX.out).cell 0
  have c27 := (HB.out.fr hf7 KB.out).cell 2
  simp only [List.getElem?_toArray, List.getElem?_cons_zero, List.getElem?_cons_succ] at c25 x05 c26 x06 c27 y0 y1
  simp only [goInt] at hr6 hr7
  clear hm5 hg5 hz5 hy5 hf5 hm6 hg6 hz6 hf6 hm7 hg7 hz7 hf7 hx7
  go_region_held3 (fun w' => w'.cell? ⟨A.b, 2, none⟩ = some (.map (some A.yb)) ∧ w'.cell? ⟨w2.heap.size, 0, none⟩ = some (.int .i64 p.1))
    (first | exact ⟨c2, x0⟩ | exact ⟨c25, x05⟩ | exact ⟨c26, x06⟩ | exact ⟨c27, y0⟩ | go_keep)
    (fail)
  all_goals (
    have hR := S3.out.rb.fr HF7.out (by rintro (e | e); exact HRM.out e; exact HRY.out e)
    have r0 := hR.cell 0
    have r1 := hR.cell 1
    have rf := hR.frozen
    simp only [List.getElem?_toArray, List.getElem?_cons_zero, List.getElem?_cons_succ] at r0 r1
    have HR := Lib.hid hR
    clear hR
    go_wp2_with fail
    have T7 : TbM w7 A { s := t.s.take.1, l := t.l ++ [(⟨k, u, p, w2.heap.size + 1⟩ : Ent)], n := t.n } := by
      refine TbM.add (t := { s := t.s.take.1, l := t.l, n := t.n }) (e := ⟨k, u, p, w2.heap.size + 1⟩) S3.out.tb HM.out HF.out ?_ HU.out HM7.out HY7.out (fun i hi h1 h2 => HF7.out.block i hi (by rintro (e | e); exact h1 e; exact h2 e))
      have := HE.out.fr HF7.out HKE.out
      rw [← Array.append_assoc] at this
      exact this
    have hs : ∀ i, i ≠ w.heap.size + 1 → ((w7.setCell ⟨w.heap.size + 1, 0, none⟩ (.int .i64 p.1)).setCell ⟨w.heap.size + 1, 1, none⟩ (.int .u64 p.2)).heap[i]? = w7.heap[i]? := fun i hi => (Below.heap_setCell (w7.setCell ⟨w.heap.size + 1, 0, none⟩ (.int .i64 p.1)) ⟨w.heap.size + 1, 1, none⟩ (.int .u64 p.2) i hi).trans (Below.heap_setCell w7 ⟨w.heap.size + 1, 0, none⟩ (.int .i64 p.1) i hi)
    refine bodyPost_ret (results_cell_row2 rfl _ _ (w.heap.size + 1) 50 _ (0, 0) _ rfl ((HR.out.set_ 0 (.int .i64 p.1)).set_ 1 (.int .u64 p.2)) Tryd.underlying50 rfl (by kernel_rfl)) rfl ?_
    refine ⟨rfl, ⟨_, T7.blk_ HR.out (by decide) hs⟩, ((S3.out.fr.trans HF7.out ?_).setCell (p := ⟨w.heap.size + 1, 0, none⟩) (.inr (by simp)) _).setCell (p := ⟨w.heap.size + 1, 1, none⟩) (.inr (by simp)) _⟩
    rintro i (rfl | rfl)
    · exact .inl (.inr (.inr (.inr (List.mem_of_getElem? HM.out))))
    · exact .inl (.inr (.inr (.inl rfl))))
/-- Intern, whatever the state. -/
theorem intern_calls {w : World} {A : TA} {t : Tb} {x : Rf} {K : Int} (h : TbM w A t) (hok : t.Ok K x) (hK : K ≤ 999998) (k : ByteArray) (hk : k.size ≤ 1000000) (u : Array Value) (hu : UrlOk u) :
    Calls Tryd.prog 19 #[.pointer (some ⟨A.b, 0, none⟩), .string k, .agg u] w fun e w' =>
      ∃ a : Nat, (∃ v, e = .returned (.tuple #[.agg #[.int .i64 (t.intern k u a).2.1.1, .int .u64 (t.intern k u a).2.1.2], v]) ∧ ErrT w' (t.intern k u a).2.2 v) ∧ TbM w' A (t.intern k u a).1 ∧ Fr w w' A.fp := by
  cases hf : t.look k with
  | some e0 =>
    have hint : ∀ a, t.intern k u a = ({ t with s := (t.s.turn e0.h 1).1 }, e0.h, none) := fun a => by unfold Tb.intern; rw [hf]
    simp only [hint]
    refine (intern_found h hok hK k hk u hf).mono ?_
    rintro e w' ⟨rfl, h1, h2⟩
    exact ⟨0, ⟨_, rfl, rfl⟩, h1, h2⟩
  | none =>
    by_cases h0 : t.s.left = 0
    · have hint : ∀ a, t.intern k u a = (t, (0, 0), some 8) := fun a => by unfold Tb.intern; rw [hf]; simp only [if_pos h0]
      simp only [hint]
      refine (intern_full h hok hK k hk u hf h0).mono ?_
      rintro e w' ⟨h1, h2, h3⟩
      exact ⟨0, h1, h2, h3⟩
    · refine (intern_new h hok hK k hk u hu hf h0).mono ?_
      rintro e w' ⟨a, rfl, h1, h2⟩
      have hint : t.intern k u a = ({ t with s := t.s.take.1, l := t.l ++ [⟨k, u, t.s.take.2.getD (0, 0), a⟩] }, t.s.take.2.getD (0, 0), none) := by unfold Tb.intern; rw [hf]; simp only [if_neg h0]
      refine ⟨a, ⟨.nilIface, ?_, ?_⟩, h1, h2⟩
      · rw [hint]
      · rw [hint]; rfl
end Go.Proofs.YtlpjjbkpoaohnaaDoor
