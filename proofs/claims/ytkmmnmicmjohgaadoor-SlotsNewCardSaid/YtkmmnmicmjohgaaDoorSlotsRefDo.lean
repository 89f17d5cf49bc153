/- The reference's Do. -/
import Derived.Test.YtkmmnmicmjohgaaDoorSlotsRef5
import Derived.Test.YtkmmnmicmjohgaaDoorSlotsAct
import Derived.RegionTactic
import Derived.ChangeAlike
import Derived.BigRegion
set_option linter.unusedVariables false
set_option linter.unusedSimpArgs false
namespace Go.Proofs.YtkmmnmicmjohgaaDoor
open Go.RowKit Slots

/-- What stands while Do goes: the struct's box, the act's, and those of the results. -/
structure DoSt (w0 w : World) (ca cb : Array Value) (cc cd : Array Value) : Prop where
  b0 : Blk w w0.heap.size 30 ca
  b1 : Blk w (w0.heap.size + 1) 56 cb
  b2 : Blk w (w0.heap.size + 1 + 1) 30 cc
  b3 : Blk w (w0.heap.size + 1 + 1 + 1) 34 cd
  be : Below w0.heap.size w0 w
  sz : w0.heap.size + 4 ≤ w.heap.size
section
variable {w0 w w' : World} {ca cb cc cd : Array Value}
theorem DoSt.alloc (h : DoSt w0 w ca cb cc cd) (o : Obj) : DoSt w0 (w.alloc o) ca cb cc cd := ⟨h.b0.alloc o, h.b1.alloc o, h.b2.alloc o, h.b3.alloc o, h.be.alloc (by have := h.sz; omega) o, by have := h.sz; simp; omega⟩
theorem DoSt.drew (h : DoSt w0 w ca cb cc cd) : DoSt w0 w.drew ca cb cc cd := ⟨h.b0, h.b1, h.b2, h.b3, h.be.drew, h.sz⟩
theorem DoSt.keep (h : DoSt w0 w ca cb cc cd) (hb : Below w.heap.size w w') : DoSt w0 w' ca cb cc cd := ⟨h.b0.keep hb, h.b1.keep hb, h.b2.keep hb, h.b3.keep hb, belowOn h.be (by have := h.sz; omega) hb, by have := h.sz; have := hb.size; omega⟩
theorem DoSt.far (h : DoSt w0 w ca cb cc cd) {p : Addr} (hp : w0.heap.size + 4 ≤ p.block) (u : Value) : DoSt w0 (w.setCell p u) ca cb cc cd :=
  ⟨h.b0.far (by omega) u, h.b1.far (by omega) u, h.b2.far (by omega) u, h.b3.far (by omega) u, h.be.setCell (by omega) u, by have := h.sz; simpa [World.setCell] using this⟩
end
theorem do_blocks (w : World) (ca cb cc cd : Array Value) : DoSt w ((((w.alloc (.cells ca 30)).alloc (.cells cb 56)).alloc (.cells cc 30)).alloc (.cells cd 34)) ca cb cc cd := by
  refine ⟨(((Blk.new w _ _).alloc _).alloc _).alloc _, ?_, ?_, ?_, ((((Below.refl _ _).alloc (Nat.le_refl _) _).alloc (by simp) _).alloc (by simp; omega) _).alloc (by simp; omega) _, by simp⟩
  · have := ((Blk.new (w.alloc (.cells ca 30)) 56 cb).alloc (.cells cc 30)).alloc (.cells cd 34)
    simpa using this
  · have := (Blk.new ((w.alloc (.cells ca 30)).alloc (.cells cb 56)) 30 cc).alloc (.cells cd 34)
    simpa using this
  · have := (Blk.new (((w.alloc (.cells ca 30)).alloc (.cells cb 56)).alloc (.cells cc 30)) 34 cd)
    simpa using this
/-- The results' cells written. -/
theorem DoSt.result {w0 w : World} {ca cb : Array Value} {u0 u1 u2 u3 x0 x1 : Value} (h : DoSt w0 w ca cb #[u0, u1, u2, u3] #[x0, x1]) (v0 v1 v2 v3 y0 y1 : Value) :
    Blk ((((((w.setCell ⟨w0.heap.size + 1 + 1, 0, none⟩ v0).setCell ⟨w0.heap.size + 1 + 1, 1, none⟩ v1).setCell ⟨w0.heap.size + 1 + 1, 2, none⟩ v2).setCell ⟨w0.heap.size + 1 + 1, 3, none⟩ v3).setCell ⟨w0.heap.size + 1 + 1 + 1, 0, none⟩ y0).setCell ⟨w0.heap.size + 1 + 1 + 1, 1, none⟩ y1) (w0.heap.size + 1 + 1) 30 #[v0, v1, v2, v3] ∧
    Blk ((((((w.setCell ⟨w0.heap.size + 1 + 1, 0, none⟩ v0).setCell ⟨w0.heap.size + 1 + 1, 1, none⟩ v1).setCell ⟨w0.heap.size + 1 + 1, 2, none⟩ v2).setCell ⟨w0.heap.size + 1 + 1, 3, none⟩ v3).setCell ⟨w0.heap.size + 1 + 1 + 1, 0, none⟩ y0).setCell ⟨w0.heap.size + 1 + 1 + 1, 1, none⟩ y1) (w0.heap.size + 1 + 1 + 1) 34 #[y0, y1] ∧
    Below w0.heap.size w0 ((((((w.setCell ⟨w0.heap.size + 1 + 1, 0, none⟩ v0).setCell ⟨w0.heap.size + 1 + 1, 1, none⟩ v1).setCell ⟨w0.heap.size + 1 + 1, 2, none⟩ v2).setCell ⟨w0.heap.size + 1 + 1, 3, none⟩ v3).setCell ⟨w0.heap.size + 1 + 1 + 1, 0, none⟩ y0).setCell ⟨w0.heap.size + 1 + 1 + 1, 1, none⟩ y1) ∧
    ∀ g, g ≠ w0.heap.size + 1 + 1 → g ≠ w0.heap.size + 1 + 1 + 1 → ((((((w.setCell ⟨w0.heap.size + 1 + 1, 0, none⟩ v0).setCell ⟨w0.heap.size + 1 + 1, 1, none⟩ v1).setCell ⟨w0.heap.size + 1 + 1, 2, none⟩ v2).setCell ⟨w0.heap.size + 1 + 1, 3, none⟩ v3).setCell ⟨w0.heap.size + 1 + 1 + 1, 0, none⟩ y0).setCell ⟨w0.heap.size + 1 + 1 + 1, 1, none⟩ y1).heap[g]? = w.heap[g]? :=
  ⟨(((((h.b2.set_ 0 v0).set_ 1 v1).set_ 2 v2).set_ 3 v3).far (by simp) y0).far (by simp) y1, (((((h.b3.far (by simp) v0).far (by simp) v1).far (by simp) v2).far (by simp) v3).set_ 0 y0).set_ 1 y1,
    (((((h.be.setCell (p := ⟨w0.heap.size + 1 + 1, 0, none⟩) (by simp; omega) v0).setCell (p := ⟨w0.heap.size + 1 + 1, 1, none⟩) (by simp; omega) v1).setCell (p := ⟨w0.heap.size + 1 + 1, 2, none⟩) (by simp; omega) v2).setCell (p := ⟨w0.heap.size + 1 + 1, 3, none⟩) (by simp; omega) v3).setCell (p := ⟨w0.heap.size + 1 + 1 + 1, 0, none⟩) (by simp; omega) y0).setCell (p := ⟨w0.heap.size + 1 + 1 + 1, 1, none⟩) (by simp; omega) y1,
    fun g hg hg' => by rw [Below.heap_setCell _ _ _ _ hg', Below.heap_setCell _ _ _ _ hg', Below.heap_setCell _ _ _ _ hg, Below.heap_setCell _ _ _ _ hg, Below.heap_setCell _ _ _ _ hg, Below.heap_setCell _ _ _ _ hg]⟩

/-- What Do's Count, Add and Drop ask. -/
structure RfOk (x : Rf) : Prop where
  len : x.counts.length = x.gens.length
  cnt : ∀ i, 0 ≤ x.count i ∧ x.count i ≤ 900000
  free : x.free.length < 9000
  rng : ∀ n ∈ x.free, 0 ≤ n ∧ n < x.gens.length

set_option maxHeartbeats 8000000 in
theorem ref_do_count {w : World} {v : Value} {x : Rf} (h : RfAt w v x) (hok : RfOk x) (k c d : Int) (hk : 0 ≤ k ∧ k ≤ 255) (hc : 0 ≤ c ∧ c ≤ 255) (hd : 0 ≤ d ∧ d ≤ 255) (h4 : k % 4 = 3) :
    Calls Tryd.prog 23 #[v, .agg #[.int .u8 k, .int .u8 c, .int .u8 d]] w fun e w' =>
      (∃ v', e = .returned (.tuple #[v', .agg #[.int .i64 0, .int .u64 0], .int .i64 (if x.live (handleOf c d) then x.count (handleOf c d).1 else 0), .int .i64 (if x.live (handleOf c d) then 0 else 7)]) ∧ RfAt w' v' x) ∧ Below w.heap.size w w' := by
  obtain ⟨A0, A1, A2, c0, c1, c2, rfl, h⟩ := h
  have hT := do_blocks w #[.slice A0 x.gens.length c0, .slice A1 x.counts.length c1, .slice A2 x.free.length c2, .int .u64 x.last] #[.int .u8 k, .int .u8 c, .int .u8 d] #[.slice none 0 0, .slice none 0 0, .slice none 0 0, .int .u64 0] #[.int .i64 0, .int .u64 0]
  have HT := Lib.hid hT
  have HH := Lib.hid h
  have HL := Lib.hid hok.len
  obtain ⟨ho, hho⟩ : ∃ ho, ho = handleOf c d := ⟨_, rfl⟩
  obtain ⟨r0, hr0⟩ : ∃ r, r = (if x.live ho then x.count ho.1 else 0) := ⟨_, rfl⟩
  obtain ⟨r1, hr1⟩ : ∃ r : Int, r = (if x.live ho then 0 else 7) := ⟨_, rfl⟩
  rw [← hho, ← hr0, ← hr1]
  have HR := Lib.hid (And.intro hr0 hr1)
  have HHO := Lib.hid hho
  clear h hT hr0 hr1 hho hok
  go_enter Tryd.func23, Tryd.ntmps23
  go_wp2_with fail
  generalize (((w.alloc (.cells #[.slice A0 x.gens.length c0, .slice A1 x.counts.length c1, .slice A2 x.free.length c2, .int .u64 x.last] 30)).alloc (.cells #[.int .u8 k, .int .u8 c, .int .u8 d] 56)).alloc (.cells #[.slice none 0 0, .slice none 0 0, .slice none 0 0, .int .u64 0] 30)).alloc (.cells #[.int .i64 0, .int .u64 0] 34) = W at HT ⊢
  have p0 := HT.out.b0.cell 0
  have p1 := HT.out.b0.cell 1
  have p2 := HT.out.b0.cell 2
  have p3 := HT.out.b0.cell 3
  have q0 := HT.out.b1.cell 0
  have q1 := HT.out.b1.cell 1
  have q2 := HT.out.b1.cell 2
  simp only [List.getElem?_toArray, List.getElem?_cons_zero, List.getElem?_cons_succ] at p0 p1 p2 p3 q0 q1 q2
  go_wp2_with fail
  go_region_held3 (fun w' => w'.cell? ⟨w.heap.size, 0, none⟩ = some (.slice A0 x.gens.length c0) ∧ w'.cell? ⟨w.heap.size, 1, none⟩ = some (.slice A1 x.counts.length c1) ∧ w'.cell? ⟨w.heap.size, 2, none⟩ = some (.slice A2 x.free.length c2) ∧ w'.cell? ⟨w.heap.size, 3, none⟩ = some (.int .u64 x.last) ∧ w'.cell? ⟨w.heap.size + 1, 0, none⟩ = some (.int .u8 k) ∧ w'.cell? ⟨w.heap.size + 1, 1, none⟩ = some (.int .u8 c) ∧ w'.cell? ⟨w.heap.size + 1, 2, none⟩ = some (.int .u8 d))
    (first | exact ⟨p0, p1, p2, p3, q0, q1, q2⟩ | exact ⟨p01, p11, p21, p31, q01, q11, q21⟩ | exact ⟨p02, p12, p22, p32, q02, q12, q22⟩ | go_keep)
    (first
      | (go_at_call 19; refine (ref_handle k c d hc hd _).mono ?_; rintro e w1 ⟨rfl, hb1⟩; rw [← HHO.out]; have hT1 := HT.out.drew.keep hb1; have p01 := hT1.b0.cell 0; have p11 := hT1.b0.cell 1; have p21 := hT1.b0.cell 2; have p31 := hT1.b0.cell 3; have q01 := hT1.b1.cell 0; have q11 := hT1.b1.cell 1; have q21 := hT1.b1.cell 2; simp only [List.getElem?_toArray, List.getElem?_cons_zero, List.getElem?_cons_succ] at p01 p11 p21 p31 q01 q11 q21; have HT1 := Lib.hid hT1; clear hT1 hb1)
      | (go_at_call 10; have hcc := ref_count (w := w1) (x := x) ⟨A0, A1, A2, c0, c1, c2, rfl, HH.out.keep HT1.out.be⟩ HL.out ho; rw [← HR.out.1, ← HR.out.2] at hcc; refine hcc.mono ?_; clear hcc; rintro e w2 ⟨rfl, hb2⟩; have hT2 := HT1.out.keep hb2; have p02 := hT2.b0.cell 0; have p12 := hT2.b0.cell 1; have p22 := hT2.b0.cell 2; have p32 := hT2.b0.cell 3; have q02 := hT2.b1.cell 0; have q12 := hT2.b1.cell 1; have q22 := hT2.b1.cell 2; simp only [List.getElem?_toArray, List.getElem?_cons_zero, List.getElem?_cons_succ] at p02 p12 p22 p32 q02 q12 q22; have HT2 := Lib.hid hT2; clear hT2 hb2))
  have t0 := HT2.out.b2.cell 0
  have t1 := HT2.out.b2.cell 1
  have t2 := HT2.out.b2.cell 2
  have t3 := HT2.out.b2.cell 3
  have s0 := HT2.out.b3.cell 0
  have s1 := HT2.out.b3.cell 1
  have ft := HT2.out.b2.frozen
  have fs := HT2.out.b3.frozen
  simp only [List.getElem?_toArray, List.getElem?_cons_zero, List.getElem?_cons_succ] at t0 t1 t2 t3 s0 s1
  clear p0 p1 p2 p3 q0 q1 q2 p01 p11 p21 p31 q01 q11 q21 q02 q12 q22
  obtain ⟨kk, kk2, kb, kh⟩ := HT2.out.result (.slice A0 x.gens.length c0) (.slice A1 x.counts.length c1) (.slice A2 x.free.length c2) (.int .u64 x.last) (.int .i64 0) (.int .u64 0)
  have K1 := Lib.hid kk
  have K2 := Lib.hid kk2
  have K3 := Lib.hid kb
  clear kk kk2 kb kh
  go_wp2
  refine bodyPost_ret (results_cell2_tmp2 rfl _ _ (w.heap.size + 1 + 1) (w.heap.size + 1 + 1 + 1) _ _ _ _ (0, 0) (0, 0) _ _ rfl K1.out Tryd.underlying30 rfl (by kernel_rfl) rfl K2.out Tryd.underlying34 rfl (by kernel_rfl)) rfl ?_
  exact ⟨⟨_, rfl, A0, A1, A2, c0, c1, c2, rfl, HH.out.keep K3.out⟩, K3.out⟩
end Go.Proofs.YtkmmnmicmjohgaaDoor
