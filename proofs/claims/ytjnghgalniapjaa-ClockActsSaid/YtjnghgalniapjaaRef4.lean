/- The reference's Put where there is room: a region that draws, with two appends. -/
import Derived.Test.YtjnghgalniapjaaRef3
import Derived.Deep.RegionLaw
set_option linter.unusedSimpArgs false
set_option linter.unusedVariables false
namespace Go.Proofs.Ytjnghgalniapjaa
open Go.RowKit

/-- What stands while Put makes the new row: its three boxes. -/
structure RoomSt (w0 w : World) (ca cb cc : Array Value) : Prop where
  b0 : Blk w w0.heap.size 32 ca
  b1 : Blk w (w0.heap.size + 1) 32 cb
  b2 : Blk w (w0.heap.size + 1 + 1) 60 cc
  be : Below w0.heap.size w0 w
  sz : w0.heap.size + 3 ≤ w.heap.size
variable {w0 w : World} {ca cb cc : Array Value}
theorem RoomSt.drew (h : RoomSt w0 w ca cb cc) : RoomSt w0 w.drew ca cb cc := ⟨h.b0.drew, h.b1.drew, h.b2.drew, h.be.drew, h.sz⟩
theorem RoomSt.alloc (h : RoomSt w0 w ca cb cc) (o : Obj) : RoomSt w0 (w.alloc o) ca cb cc :=
  ⟨h.b0.alloc o, h.b1.alloc o, h.b2.alloc o, h.be.alloc (by have := h.sz; omega) o, by have := h.sz; simp; omega⟩
theorem RoomSt.grown {row : Option Nat} {w' : World} (h : RoomSt w0 w ca cb cc) (hg : w.grownBy w' row) (hr : ∀ k, row = some k → w0.heap.size + 3 ≤ k) : RoomSt w0 w' ca cb cc :=
  ⟨h.b0.grown hg (fun e => by have := hr _ e.symm; omega), h.b1.grown hg (fun e => by have := hr _ e.symm; omega), h.b2.grown hg (fun e => by have := hr _ e.symm; omega),
    h.be.grown hg (by have := h.sz; omega) (fun k e => by have := hr _ e; omega), by have := h.sz; have := hg.size; omega⟩
theorem RoomSt.cells {u a1 a2 p0 p1 p2 p3 : Value} (h : RoomSt w0 w #[u, a1, a2] cb #[p0, p1, p2, p3]) :
    w.cell? ⟨w0.heap.size, 0, none⟩ = some u ∧ w.cell? ⟨w0.heap.size + 1 + 1, 0, none⟩ = some p0 ∧ w.cell? ⟨w0.heap.size + 1 + 1, 1, none⟩ = some p1 ∧ w.cell? ⟨w0.heap.size + 1 + 1, 2, none⟩ = some p2 ∧ w.cell? ⟨w0.heap.size + 1 + 1, 3, none⟩ = some p3 := by
  refine ⟨?_, ?_, ?_, ?_, ?_⟩ <;> first | rw [h.b0.cell]; rfl | rw [h.b2.cell]; rfl
theorem RoomSt.pcells {p0 p1 p2 p3 : Value} (h : RoomSt w0 w ca cb #[p0, p1, p2, p3]) :
    w.cell? ⟨w0.heap.size + 1 + 1, 0, none⟩ = some p0 ∧ w.cell? ⟨w0.heap.size + 1 + 1, 1, none⟩ = some p1 ∧ w.cell? ⟨w0.heap.size + 1 + 1, 2, none⟩ = some p2 ∧ w.cell? ⟨w0.heap.size + 1 + 1, 3, none⟩ = some p3 := by
  refine ⟨?_, ?_, ?_, ?_⟩ <;> (rw [h.b2.cell]; rfl)
theorem RoomSt.set0 (h : RoomSt w0 w ca cb cc) (x : Value) : RoomSt w0 (w.setCell ⟨w0.heap.size, 0, none⟩ x) (ca.setIfInBounds 0 x) cb cc :=
  ⟨h.b0.set_ 0 x, h.b1.far (by simp) x, h.b2.far (by simp; omega) x, h.be.setCell (Nat.le_refl _) x, by have := h.sz; simpa using this⟩

/-- An append of a whole row, that may be nil, to a row of the call's own: as one run. -/
theorem run_append_row (P : Program) (w : World) (base : Nat) (t ty e : TypeId) (i : TypeInfo) (z : Value) (size bytes : Nat) (ht : P.underlying t = some (.slice e)) (hi : P.info? e = some i) (hz : i.zero = some z)
    (hsize : i.size = size) (hby : i.bytes = bytes) (hzs : z.cells.size = size) (hsz : 0 < size)
    (g n cap : Nat) (xs : List Value) (hown : w.ownsRow base e size (.slice (some ⟨g, 0, none⟩) n cap) n xs)
    (A : Option Addr) (m c : Nat) (news : List Value) (hl : news.length = m * size) (hsrc : (∃ a, A = some a ∧ ∀ j u, news[j]? = some u → w.cell? (a.add j) = some u) ∨ (A = none ∧ m = 0)) (h1 : ∀ u ∈ news, u.oneCell' = true)
    (h63 : n + m ≤ maxLen) (hbytes : (n + m) * bytes ≤ 140737488355328) (hbase : base ≤ w.heap.size) :
    ∃ v' w', (Builtin.append_ #[t, t] ty #[.slice (some ⟨g, 0, none⟩) n cap, .slice A m c]).run P w = .ok v' w' ∧ w'.ownsRow base e size v' (n + m) (xs ++ news) ∧ w.grownBy w' (some g) ∧
      (v'.ownBlock = some g ∨ v'.ownBlock = some w.heap.size) := by
  rcases hsrc with ⟨a, rfl, hnews⟩ | ⟨rfl, rfl⟩
  · obtain ⟨v', w', h1, h2, h3, _, h5⟩ := run_append_own_at (P := P) w base t ty e i z size bytes ht hi hz hsize hby hzs hsz _ n xs hown a m c news hl hnews h1 h63 hbytes hbase
    exact ⟨v', w', h1, h2, h3, h5⟩
  · have hnil : news = [] := by simpa using hl
    subst hnil
    have hcap : n ≤ cap := by
      rcases hown.2 with ⟨h, _⟩ | ⟨_, _, _, h, _, _, h2, _⟩
      · cases h
      · cases h; exact h2
    refine ⟨.slice (some ⟨g, 0, none⟩) n cap, w, ?_, by simpa using hown, ⟨rfl, rfl, rfl, Nat.le_refl _, fun _ _ _ => rfl⟩, .inl rfl⟩
    simp [Builtin.append_, run_underlying ht, sizeOf, typeInfo, hi, Builtin.lenOf, hcap, run_firstCells_none, storeCells]

/-- One of a region's steps: an append of a row, by the run's equation. -/
theorem step_append_run {P : Program} {w w' : World} {ops : Array Oper} {o : Oper} {a : Go.Act} {K : Go.Act → World → Prop} {Q : Exit → Go.Act → World → Prop} {E : Prop} {v' : Value} (hgd : o.guard = none) (s x : Operand) (t : TypeId)
    (ho : o.op = .call { callee := .builtin .append, args := #[s, x], argTypes := #[t, t] }) (hr : (Builtin.append_ #[t, t] o.type #[a.eval s, a.eval x]).run P w = .ok v' w')
    (h : K (a.put o.dst v') w') : if Region.wanted o (yielded ops a.tmps) = true then Oper.wp P o a w K Q else E := by
  have hw : Region.wanted o (yielded ops a.tmps) = true := by simp [Region.wanted, hgd]
  rw [if_pos hw]
  unfold Oper.wp execOp
  simp only [ho, resolve, invoke, builtin, Sem.run_bind, Sem.run_pure, Result.andThen_ok, List.map_toArray, List.map_cons, List.map_nil, hr]
  exact h

/-- The first append: the old row behind nothing. -/
theorem step_ref1 {base : Nat} {u : Value} {l : List Pl} {ops : Array Oper} {o : Oper} {a : Go.Act} {K : Go.Act → World → Prop} {Q : Exit → Go.Act → World → Prop} {E : Prop} (hgd : o.guard = none) (s x : Operand)
    (ho : o.op = .call { callee := .builtin .append, args := #[s, x], argTypes := #[30, 30] })
    (g : Nat) (hs : a.eval s = .slice (some ⟨g, 0, none⟩) 0 0) (hx : a.eval x = u) (hfresh : w.heap[g]? = some (.cells #[] 60)) (hr : RefAt w base u l) (hl : l.length ≤ 4096) (hbase : base ≤ w0.heap.size) (hst : RoomSt w0 w ca cb cc) (hg : w0.heap.size + 3 ≤ g)
    (h : ∀ g' cap' w', RefAt w' base (.slice (some ⟨g', 0, none⟩) l.length cap') l → w.grownBy w' (some g) → (g' = g ∨ g' = w.heap.size) → RoomSt w0 w' ca cb cc → K (a.put o.dst (.slice (some ⟨g', 0, none⟩) l.length cap')) w') :
    if Region.wanted o (yielded ops a.tmps) = true then Oper.wp Try.prog o a w K Q else E := by
  obtain ⟨ip, hip, hpz, hps, hpb⟩ := info_parts ref_info
  obtain ⟨A, cap, rfl⟩ := row_slice hr
  have hown : w.ownsRow base 60 4 (.slice (some ⟨g, 0, none⟩) 0 0) 0 [] := ⟨by simp, .inr ⟨g, 0, #[], rfl, by omega, hfresh, Nat.le_refl _, by simp [maxLen], by simp, by simp⟩⟩
  have hone : ∀ u ∈ l.flatMap Pl.cells, u.oneCell' = true := fun u hu => by
    obtain ⟨p, _, hu⟩ := List.mem_flatMap.1 hu
    simp only [Pl.cells, List.mem_cons, List.not_mem_nil, or_false] at hu
    rcases hu with rfl | rfl | rfl | rfl <;> rfl
  have hsrc : (∃ a, A = some a ∧ ∀ j u, (l.flatMap Pl.cells)[j]? = some u → w.cell? (a.add j) = some u) ∨ (A = none ∧ l.length = 0) := by
    rcases hr.2 with ⟨e, h0⟩ | ⟨g', cap', cur, e, _⟩
    · injection e with e1 _ _
      exact .inr ⟨e1, h0⟩
    · cases e
      exact .inl ⟨_, rfl, fun j u hj => hr.cells (g := g') rfl j u hj⟩
  obtain ⟨v', w', hrun, h2, h3, h5⟩ := run_append_row Try.prog w base 30 o.type 60 ip _ 4 48 Try.underlying30 hip hpz hps hpb rfl (by omega) g 0 0 [] hown A l.length cap (l.flatMap Pl.cells) (flat_length pl_len l) hsrc hone (by simp only [maxLen]; omega) (by omega) (by have := hst.sz; omega)
  have hst' := hst.grown h3 (fun k e => by cases e; exact hg)
  simp only [Nat.zero_add, List.nil_append] at h2
  rcases h2.2 with ⟨e, _⟩ | ⟨g', cap', cur, e, _⟩
  · rw [e] at h5
    rcases h5 with e | e <;> cases e
  · subst e
    exact step_append_run hgd s x _ ho (by rw [hs, hx]; exact hrun) (h g' cap' w' h2 h3 (by rcases h5 with e | e <;> cases e; exact .inl rfl; exact .inr rfl) hst')

/-- The second append: a place more. -/
theorem step_ref2 {base : Nat} {l : List Pl} {p : Pl} {ops : Array Oper} {o : Oper} {a : Go.Act} {K : Go.Act → World → Prop} {Q : Exit → Go.Act → World → Prop} {E : Prop} (hgd : o.guard = none) (s x : Operand)
    (ho : o.op = .call { callee := .builtin .append, args := #[s, x], argTypes := #[30, 30] })
    (g cap gp : Nat) (hs : a.eval s = .slice (some ⟨g, 0, none⟩) l.length cap) (hx : a.eval x = .slice (some ⟨gp, 0, none⟩) 1 1) (hp : Blk w gp 60 #[.string p.k, .int .i64 p.ver, .string p.v, .bool p.mark]) (hr : RefAt w base (.slice (some ⟨g, 0, none⟩) l.length cap) l) (hl : l.length < 4096) (hbase : base ≤ w0.heap.size) (hst : RoomSt w0 w ca cb cc) (hv : w0.heap.size + 3 ≤ g)
    (h : ∀ A cap w', RefAt w' base (.slice A (l.length + 1) cap) (l ++ [p]) → RoomSt w0 w' ca cb cc → w'.frozen? ⟨w0.heap.size, 0, none⟩ = false → K (a.put o.dst (.slice A (l.length + 1) cap)) w') :
    if Region.wanted o (yielded ops a.tmps) = true then Oper.wp Try.prog o a w K Q else E := by
  obtain ⟨ip, hip, hpz, hps, hpb⟩ := info_parts ref_info
  have hone : ∀ u ∈ p.cells, u.oneCell' = true := fun u hu => by
    simp only [Pl.cells, List.mem_cons, List.not_mem_nil, or_false] at hu
    rcases hu with rfl | rfl | rfl | rfl <;> rfl
  obtain ⟨v', w', hrun, h2, h3, h5⟩ := run_append_row Try.prog w base 30 o.type 60 ip _ 4 48 Try.underlying30 hip hpz hps hpb rfl (by omega) g l.length cap _ hr (some ⟨gp, 0, none⟩) 1 1 p.cells rfl (.inl ⟨_, rfl, World.news_of_block hp⟩) hone (by simp only [maxLen]; omega) (by omega) (by have := hst.sz; omega)
  have hst' := hst.grown h3 (fun k e => by cases e; exact hv)
  obtain ⟨A', cap', rfl⟩ := row_slice h2
  exact step_append_run hgd s x _ ho (by rw [hs, hx]; exact hrun) (h _ _ w' (by simpa [RefAt] using h2) hst' (hst'.b0.frozen 0))
theorem blk_two_a (W : World) (o : Obj) (t : TypeId) (cs : Array Value) : Blk ((W.alloc o).alloc (.cells cs t)).drew (W.heap.size + 1) t cs := by
  have h : Blk ((W.alloc o).alloc (.cells cs t)) (W.heap.size + 1) t cs := by
    have := Blk.new (W.alloc o) t cs
    simpa using this
  exact h.drew
theorem blk_two_b (W : World) (o : Obj) (t : TypeId) (cs : Array Value) : Blk ((W.alloc (.cells cs t)).alloc o).drew W.heap.size t cs := (Blk.new W t cs).alloc o

set_option maxHeartbeats 1000000 in
theorem refPut_room {w : World} {base : Nat} {u : Value} {m : Memo} (h : RefAt w base u m.l) (hok : m.Ok) (hbase : base ≤ w.heap.size) (k v : ByteArray) (ver : Int) (hf : findP k m.l = none) (hroom : m.l.length < m.room) :
    Calls Try.prog 19 #[.agg #[u, .int .i64 m.room, .int .i64 m.hand], .string k, .int .i64 ver, .string v] w fun e w' =>
      (∃ u', e = .returned (.agg #[u', .int .i64 m.room, .int .i64 m.hand]) ∧ RefAt w' base u' (m.l ++ [⟨k, ver, v, true⟩])) ∧ Below w.heap.size w w' := by
  have hlen : m.l.length ≤ 4096 := Nat.le_trans hok.len hok.hi
  have hlt4 : m.l.length < 4096 := Nat.lt_of_lt_of_le hroom hok.hi
  obtain ⟨A, cap, hu⟩ := row_slice h
  subst hu
  have hI : findI k m.l = -1 := by simp [findI, hf]
  have hltB : decide ((m.l.length : Int) < (m.room : Int)) = true := by simp; omega
  have hltB' : decide (m.l.length < m.room) = true := by simp; omega
  have H := Lib.hid h
  have HI := Lib.hid hI
  have HLT := Lib.hid hlt4
  have HLEN := Lib.hid hlen
  clear h hok hf hI hroom hlt4
  go_enter Try.func19, Try.ntmps19
  go_wp2_with fail
  obtain ⟨b0, b1, b2, hbe, hsz⟩ := put_blocks w (.slice A m.l.length cap) (.int .i64 m.room) (.int .i64 m.hand) k v ver
  generalize ((w.alloc (.cells #[.slice A m.l.length cap, .int .i64 m.room, .int .i64 m.hand] 32)).alloc (.cells #[.slice none 0 0, .int .i64 0, .int .i64 0] 32)).alloc (.cells #[.string k, .int .i64 ver, .string v, .bool true] 60) = W at b0 b1 b2 hbe hsz ⊢
  refine (find_calls (H.out.keep hbe) hlen _ _ k).mono ?_
  rintro e w' ⟨rfl, rfl⟩
  rw [HI.out]
  have hst : RoomSt w (W.alloc (.cells #[.slice A m.l.length cap, .int .i64 m.room, .int .i64 m.hand] 32)) _ _ _ := (RoomSt.mk b0 b1 b2 hbe (by omega)).alloc _
  have hsz2 : (W.alloc (.cells #[.slice A m.l.length cap, .int .i64 m.room, .int .i64 m.hand] 32)).heap.size = w.heap.size + 4 := by simp [hsz]
  clear b0 b1 b2 hbe hsz
  generalize W.alloc (.cells #[.slice A m.l.length cap, .int .i64 m.room, .int .i64 m.hand] 32) = W2 at hst hsz2 ⊢
  have q0 := hst.b0.cell 0
  have q1 := hst.b0.cell 1
  have q2 := hst.b0.cell 2
  simp only [List.getElem?_toArray, List.getElem?_cons_zero, List.getElem?_cons_succ] at q0 q1 q2
  have HST := Lib.hid hst
  have HSZ := Lib.hid hsz2
  clear hst hsz2
  have hB1 : ∀ W, RoomSt w W #[.slice A m.l.length cap, .int .i64 m.room, .int .i64 m.hand] #[.slice none 0 0, .int .i64 0, .int .i64 0] #[.string k, .int .i64 ver, .string v, .bool true] → RoomSt w W #[.slice A m.l.length cap, .int .i64 m.room, .int .i64 m.hand] #[.slice none 0 0, .int .i64 0, .int .i64 0] #[.string k, .int .i64 ver, .string v, .bool true] := fun _ h => h
  have B1 := Lib.hid hB1
  clear hB1
  go_wp2_with fail
  have hq0 := HST.out.cells.1
  have hq1 : ∀ o, (W2.alloc o).cell? _ = _ := fun o => (HST.out.alloc o).cells.1
  have hq2 : ∀ o o', ((W2.alloc o).alloc o').cell? _ = _ := fun o o' => ((HST.out.alloc o).alloc o').cells.1
  clear q0 q1 q2 hltB hltB'
  obtain ⟨p00, p01, p02, p03⟩ := HST.out.pcells
  have p10 : ∀ o, (W2.alloc o).cell? _ = _ := fun o => (HST.out.alloc o).pcells.1
  have p11 : ∀ o, (W2.alloc o).cell? _ = _ := fun o => (HST.out.alloc o).pcells.2.1
  have p12 : ∀ o, (W2.alloc o).cell? _ = _ := fun o => (HST.out.alloc o).pcells.2.2.1
  have p13 : ∀ o, (W2.alloc o).cell? _ = _ := fun o => (HST.out.alloc o).pcells.2.2.2
  go_region_law (first
      | (refine step_ref2 (w0 := w) (l := m.l) (p := ⟨k, ver, v, true⟩) (base := base) (by rfl) (.tmp 35) (.tmp 37) (by rfl) _ _ _ (by rfl) (by rfl) (by first | exact Blk.new _ _ _ | exact (blk_two_a _ _ _ _).grown HG1.out (by simp) | exact (blk_two_b _ _ _ _).grown HG1.out (by simp)) (by first | exact HR1.out | exact World.ownsRow.alloc HR1.out _) HLT.out hbase (by first | exact HS1.out | exact HS1.out.alloc _) (by have := HAT1.out; have := HSZ.out; simp at *; omega) ?_; intro A2 cap2 w2 hr2 hs2 hf2; have z0 := hs2.b0.cell 0; have z1 := hs2.b0.cell 1; have z2 := hs2.b0.cell 2; have r0 := hs2.b1.cell 0; have r1 := hs2.b1.cell 1; have r2 := hs2.b1.cell 2; have fr0 := hs2.b1.frozen 0; have fr1 := hs2.b1.frozen 1; have fr2 := hs2.b1.frozen 2; simp only [List.getElem?_toArray, List.getElem?_cons_zero, List.getElem?_cons_succ] at z0 z1 z2 r0 r1 r2; have HS2 := Lib.hid hs2; have HR2 := Lib.hid hr2; clear hs2 hr2)
      | (refine step_ref1 (w0 := w) (l := m.l) (base := base) (u := .slice A m.l.length cap) (by rfl) (.tmp 32) (.tmp 34) (by rfl) _ (by rfl) (by rfl) (by first | exact blk_two_a _ _ _ _ | exact blk_two_b _ _ _ _ | exact heap_alloc_new _ _) (H.out.keep (by first | exact (HST.out.drew.alloc _).be | exact ((HST.out.drew.alloc _).alloc _).be)) HLEN.out hbase (by first | exact (HST.out.drew.alloc _) | exact ((HST.out.drew.alloc _).alloc _)) (by have := HSZ.out; simp; omega) ?_; intro g1 cap1 w1 hr1 hg1 hat1 hs1; have HS1 := Lib.hid hs1; have HR1 := Lib.hid hr1; have HG1 := Lib.hid hg1; have HAT1 := Lib.hid hat1; obtain ⟨p20, p21, p22, p23⟩ := hs1.pcells; clear hs1 hr1 hg1 hat1))
  all_goals go_wp2
  all_goals (
    have hs3 := HS2.out.set0 (.slice A2 (m.l.length + 1) cap2)
    have hr3 : RefAt w2 base (.slice A2 (m.l.length + 1) cap2) (m.l ++ [⟨k, ver, v, true⟩]) := HR2.out
    have hr4 : RefAt (w2.setCell ⟨w.heap.size, 0, none⟩ (.slice A2 (m.l.length + 1) cap2)) base (.slice A2 (m.l.length + 1) cap2) (m.l ++ [⟨k, ver, v, true⟩]) := row_keep hr3 fun g' hg' => Below.heap_setCell _ _ _ _ (by obtain ⟨_, cur, hc⟩ := row_blk hr3 hg'; exact hc.ne_ HS2.out.b0 (by decide))
    refine bodyPost_ret (results_cell_row rfl _ _ (w.heap.size + 1) 32 _ (0, 0) _ rfl (out_done hs3.b1) Try.underlying32 rfl (by kernel_rfl)) rfl ?_
    exact ⟨⟨_, rfl, ref_far hr4 hs3.b1⟩, below_set3 hs3.be (by omega) _ _ _⟩)
end Go.Proofs.Ytjnghgalniapjaa
