/- The reference's Do. The reference's Do: Add and Drop. The reference's Do, whatever the act. -/
import Derived.Test.YtkmmnmicmjohgaaDoorSlotsRef4
import Derived.Test.YtkmmnmicmjohgaaDoorSlotsAct
import Derived.RegionTactic
import Derived.ChangeAlike
import Derived.BigRegion
set_option linter.unusedVariables false
set_option linter.unusedSimpArgs false
namespace Go.Proofs.YtkmmnmicmjohgaaDoor
open Go.RowKit Slots

/-- What stands while Do goes: the struct's box, the act's, and those of the results. -/
structure DoSt (w0 w : World) (ca cb : Array Value) (cc cd : Array Value) : Prop where
  b0 : Blk w w0.heap.size 30 ca
  b1 : Blk w (w0.heap.size + 1) 56 cb
  b2 : Blk w (w0.heap.size + 1 + 1) 30 cc
  b3 : Blk w (w0.heap.size + 1 + 1 + 1) 34 cd
  be : Below w0.heap.size w0 w
  sz : w0.heap.size + 4 ≤ w.heap.size
section
variable {w0 w w' : World} {ca cb cc cd : Array Value}
theorem DoSt.alloc (h : DoSt w0 w ca cb cc cd) (o : Obj) : DoSt w0 (w.alloc o) ca cb cc cd := ⟨h.b0.alloc o, h.b1.alloc o, h.b2.alloc o, h.b3.alloc o, h.be.alloc (by have := h.sz; omega) o, by have := h.sz; simp; omega⟩
theorem DoSt.drew (h : DoSt w0 w ca cb cc cd) : DoSt w0 w.drew ca cb cc cd := ⟨h.b0, h.b1, h.b2, h.b3, h.be.drew, h.sz⟩
theorem DoSt.keep (h : DoSt w0 w ca cb cc cd) (hb : Below w.heap.size w w') : DoSt w0 w' ca cb cc cd := ⟨h.b0.keep hb, h.b1.keep hb, h.b2.keep hb, h.b3.keep hb, belowOn h.be (by have := h.sz; omega) hb, by have := h.sz; have := hb.size; omega⟩
theorem DoSt.far (h : DoSt w0 w ca cb cc cd) {p : Addr} (hp : w0.heap.size + 4 ≤ p.block) (u : Value) : DoSt w0 (w.setCell p u) ca cb cc cd :=
  ⟨h.b0.far (by omega) u, h.b1.far (by omega) u, h.b2.far (by omega) u, h.b3.far (by omega) u, h.be.setCell (by omega) u, by have := h.sz; simpa [World.setCell] using this⟩
end
theorem do_blocks (w : World) (ca cb cc cd : Array Value) : DoSt w ((((w.alloc (.cells ca 30)).alloc (.cells cb 56)).alloc (.cells cc 30)).alloc (.cells cd 34)) ca cb cc cd := by
  refine ⟨(((Blk.new w _ _).alloc _).alloc _).alloc _, ?_, ?_, ?_, ((((Below.refl _ _).alloc (Nat.le_refl _) _).alloc (by simp) _).alloc (by simp; omega) _).alloc (by simp; omega) _, by simp⟩
  · have := ((Blk.new (w.alloc (.cells ca 30)) 56 cb).alloc (.cells cc 30)).alloc (.cells cd 34)
    simpa using this
  · have := (Blk.new ((w.alloc (.cells ca 30)).alloc (.cells cb 56)) 30 cc).alloc (.cells cd 34)
    simpa using this
  · have := (Blk.new (((w.alloc (.cells ca 30)).alloc (.cells cb 56)).alloc (.cells cc 30)) 34 cd)
    simpa using this
/-- The results' cells written. -/
theorem DoSt.result {w0 w : World} {ca cb : Array Value} {u0 u1 u2 u3 x0 x1 : Value} (h : DoSt w0 w ca cb #[u0, u1, u2, u3] #[x0, x1]) (v0 v1 v2 v3 y0 y1 : Value) :
    Blk ((((((w.setCell ⟨w0.heap.size + 1 + 1, 0, none⟩ v0).setCell ⟨w0.heap.size + 1 + 1, 1, none⟩ v1).setCell ⟨w0.heap.size + 1 + 1, 2, none⟩ v2).setCell ⟨w0.heap.size + 1 + 1, 3, none⟩ v3).setCell ⟨w0.heap.size + 1 + 1 + 1, 0, none⟩ y0).setCell ⟨w0.heap.size + 1 + 1 + 1, 1, none⟩ y1) (w0.heap.size + 1 + 1) 30 #[v0, v1, v2, v3] ∧
    Blk ((((((w.setCell ⟨w0.heap.size + 1 + 1, 0, none⟩ v0).setCell ⟨w0.heap.size + 1 + 1, 1, none⟩ v1).setCell ⟨w0.heap.size + 1 + 1, 2, none⟩ v2).setCell ⟨w0.heap.size + 1 + 1, 3, none⟩ v3).setCell ⟨w0.heap.size + 1 + 1 + 1, 0, none⟩ y0).setCell ⟨w0.heap.size + 1 + 1 + 1, 1, none⟩ y1) (w0.heap.size + 1 + 1 + 1) 34 #[y0, y1] ∧
    Below w0.heap.size w0 ((((((w.setCell ⟨w0.heap.size + 1 + 1, 0, none⟩ v0).setCell ⟨w0.heap.size + 1 + 1, 1, none⟩ v1).setCell ⟨w0.heap.size + 1 + 1, 2, none⟩ v2).setCell ⟨w0.heap.size + 1 + 1, 3, none⟩ v3).setCell ⟨w0.heap.size + 1 + 1 + 1, 0, none⟩ y0).setCell ⟨w0.heap.size + 1 + 1 + 1, 1, none⟩ y1) ∧
    ∀ g, g ≠ w0.heap.size + 1 + 1 → g ≠ w0.heap.size + 1 + 1 + 1 → ((((((w.setCell ⟨w0.heap.size + 1 + 1, 0, none⟩ v0).setCell ⟨w0.heap.size + 1 + 1, 1, none⟩ v1).setCell ⟨w0.heap.size + 1 + 1, 2, none⟩ v2).setCell ⟨w0.heap.size + 1 + 1, 3, none⟩ v3).setCell ⟨w0.heap.size + 1 + 1 + 1, 0, none⟩ y0).setCell ⟨w0.heap.size + 1 + 1 + 1, 1, none⟩ y1).heap[g]? = w.heap[g]? :=
  ⟨(((((h.b2.set_ 0 v0).set_ 1 v1).set_ 2 v2).set_ 3 v3).far (by simp) y0).far (by simp) y1, (((((h.b3.far (by simp) v0).far (by simp) v1).far (by simp) v2).far (by simp) v3).set_ 0 y0).set_ 1 y1,
    (((((h.be.setCell (p := ⟨w0.heap.size + 1 + 1, 0, none⟩) (by simp; omega) v0).setCell (p := ⟨w0.heap.size + 1 + 1, 1, none⟩) (by simp; omega) v1).setCell (p := ⟨w0.heap.size + 1 + 1, 2, none⟩) (by simp; omega) v2).setCell (p := ⟨w0.heap.size + 1 + 1, 3, none⟩) (by simp; omega) v3).setCell (p := ⟨w0.heap.size + 1 + 1 + 1, 0, none⟩) (by simp; omega) y0).setCell (p := ⟨w0.heap.size + 1 + 1 + 1, 1, none⟩) (by simp; omega) y1,
    fun g hg hg' => by rw [Below.heap_setCell _ _ _ _ hg', Below.heap_setCell _ _ _ _ hg', Below.heap_setCell _ _ _ _ hg, Below.heap_setCell _ _ _ _ hg, Below.heap_setCell _ _ _ _ hg, Below.heap_setCell _ _ _ _ hg]⟩

/-- What Do's Count, Add and Drop ask. -/
structure RfOk (x : Rf) : Prop where
  len : x.counts.length = x.gens.length
  cnt : ∀ i, 0 ≤ x.count i ∧ x.count i ≤ 900000
  free : x.free.length < 9000
  rng : ∀ n ∈ x.free, 0 ≤ n ∧ n < x.gens.length

set_option maxHeartbeats 8000000 in
theorem ref_do_count {w : World} {v : Value} {x : Rf} (h : RfAt w v x) (hok : RfOk x) (k c d : Int) (hk : 0 ≤ k ∧ k ≤ 255) (hc : 0 ≤ c ∧ c ≤ 255) (hd : 0 ≤ d ∧ d ≤ 255) (h4 : k % 4 = 3) :
    Calls Tryd.prog 23 #[v, .agg #[.int .u8 k, .int .u8 c, .int .u8 d]] w fun e w' =>
      (∃ v', e = .returned (.tuple #[v', .agg #[.int .i64 0, .int .u64 0], .int .i64 (if x.live (handleOf c d) then x.count (handleOf c d).1 else 0), .int .i64 (if x.live (handleOf c d) then 0 else 7)]) ∧ RfAt w' v' x) ∧ Below w.heap.size w w' := by
  obtain ⟨A0, A1, A2, c0, c1, c2, rfl, h⟩ := h
  have hT := do_blocks w #[.slice A0 x.gens.length c0, .slice A1 x.counts.length c1, .slice A2 x.free.length c2, .int .u64 x.last] #[.int .u8 k, .int .u8 c, .int .u8 d] #[.slice none 0 0, .slice none 0 0, .slice none 0 0, .int .u64 0] #[.int .i64 0, .int .u64 0]
  have HT := Lib.hid hT
  have HH := Lib.hid h
  have HL := Lib.hid hok.len
  obtain ⟨ho, hho⟩ : ∃ ho, ho = handleOf c d := ⟨_, rfl⟩
  obtain ⟨r0, hr0⟩ : ∃ r, r = (if x.live ho then x.count ho.1 else 0) := ⟨_, rfl⟩
  obtain ⟨r1, hr1⟩ : ∃ r : Int, r = (if x.live ho then 0 else 7) := ⟨_, rfl⟩
  rw [← hho, ← hr0, ← hr1]
  have HR := Lib.hid (And.intro hr0 hr1)
  have HHO := Lib.hid hho
  clear h hT hr0 hr1 hho hok
  go_enter Tryd.func23, Tryd.ntmps23
  go_wp2_with fail
  generalize (((w.alloc (.cells #[.slice A0 x.gens.length c0, .slice A1 x.counts.length c1, .slice A2 x.free.length c2, .int .u64 x.last] 30)).alloc (.cells #[.int .u8 k, .int .u8 c, .int .u8 d] 56)).alloc (.cells #[.slice none 0 0, .slice none 0 0, .slice none 0 0, .int .u64 0] 30)).alloc (.cells #[.int .i64 0, .int .u64 0] 34) = W at HT ⊢
  have p0 := HT.out.b0.cell 0
  have p1 := HT.out.b0.cell 1
  have p2 := HT.out.b0.cell 2
  have p3 := HT.out.b0.cell 3
  have q0 := HT.out.b1.cell 0
  have q1 := HT.out.b1.cell 1
  have q2 := HT.out.b1.cell 2
  simp only [List.getElem?_toArray, List.getElem?_cons_zero, List.getElem?_cons_succ] at p0 p1 p2 p3 q0 q1 q2
  go_wp2_with fail
  go_region_held3 (fun w' => w'.cell? ⟨w.heap.size, 0, none⟩ = some (.slice A0 x.gens.length c0) ∧ w'.cell? ⟨w.heap.size, 1, none⟩ = some (.slice A1 x.counts.length c1) ∧ w'.cell? ⟨w.heap.size, 2, none⟩ = some (.slice A2 x.free.length c2) ∧ w'.cell? ⟨w.heap.size, 3, none⟩ = some (.int .u64 x.last) ∧ w'.cell? ⟨w.heap.size + 1, 0, none⟩ = some (.int .u8 k) ∧ w'.cell? ⟨w.heap.size + 1, 1, none⟩ = some (.int .u8 c) ∧ w'.cell? ⟨w.heap.size + 1, 2, none⟩ = some (.int .u8 d))
    (first | exact ⟨p0, p1, p2, p3, q0, q1, q2⟩ | exact ⟨p01, p11, p21, p31, q01, q11, q21⟩ | exact ⟨p02, p12, p22, p32, q02, q12, q22⟩ | go_keep)
    (first
      | (go_at_call 19; refine (ref_handle k c d hc hd _).mono ?_; rintro e w1 ⟨rfl, hb1⟩; rw [← HHO.out]; have hT1 := HT.out.drew.keep hb1; have p01 := hT1.b0.cell 0; have p11 := hT1.b0.cell 1; have p21 := hT1.b0.cell 2; have p31 := hT1.b0.cell 3; have q01 := hT1.b1.cell 0; have q11 := hT1.b1.cell 1; have q21 := hT1.b1.cell 2; simp only [List.getElem?_toArray, List.getElem?_cons_zero, List.getElem?_cons_succ] at p01 p11 p21 p31 q01 q11 q21; have HT1 := Lib.hid hT1; clear hT1 hb1)
      | (go_at_call 10; have hcc := ref_count (w := w1) (x := x) ⟨A0, A1, A2, c0, c1, c2, rfl, HH.out.keep HT1.out.be⟩ HL.out ho; rw [← HR.out.1, ← HR.out.2] at hcc; refine hcc.mono ?_; clear hcc; rintro e w2 ⟨rfl, hb2⟩; have hT2 := HT1.out.keep hb2; have p02 := hT2.b0.cell 0; have p12 := hT2.b0.cell 1; have p22 := hT2.b0.cell 2; have p32 := hT2.b0.cell 3; have q02 := hT2.b1.cell 0; have q12 := hT2.b1.cell 1; have q22 := hT2.b1.cell 2; simp only [List.getElem?_toArray, List.getElem?_cons_zero, List.getElem?_cons_succ] at p02 p12 p22 p32 q02 q12 q22; have HT2 := Lib.hid hT2; clear hT2 hb2))
  have t0 := HT2.out.b2.cell 0
  have t1 := HT2.out.b2.cell 1
  have t2 := HT2.out.b2.cell 2
  have t3 := HT2.out.b2.cell 3
  have s0 := HT2.out.b3.cell 0
  have s1 := HT2.out.b3.cell 1
  have ft := HT2.out.b2.frozen
  have fs := HT2.out.b3.frozen
  simp only [List.getElem?_toArray, List.getElem?_cons_zero, List.getElem?_cons_succ] at t0 t1 t2 t3 s0 s1
  clear p0 p1 p2 p3 q0 q1 q2 p01 p11 p21 p31 q01 q11 q21 q02 q12 q22
  obtain ⟨kk, kk2, kb, kh⟩ := HT2.out.result (.slice A0 x.gens.length c0) (.slice A1 x.counts.length c1) (.slice A2 x.free.length c2) (.int .u64 x.last) (.int .i64 0) (.int .u64 0)
  have K1 := Lib.hid kk
  have K2 := Lib.hid kk2
  have K3 := Lib.hid kb
  clear kk kk2 kb kh
  go_wp2
  refine bodyPost_ret (results_cell2_tmp2 rfl _ _ (w.heap.size + 1 + 1) (w.heap.size + 1 + 1 + 1) _ _ _ _ (0, 0) (0, 0) _ _ rfl K1.out Tryd.underlying30 rfl (by kernel_rfl) rfl K2.out Tryd.underlying34 rfl (by kernel_rfl)) rfl ?_
  exact ⟨⟨_, rfl, A0, A1, A2, c0, c1, c2, rfl, HH.out.keep K3.out⟩, K3.out⟩
end Go.Proofs.YtkmmnmicmjohgaaDoor

namespace Go.Proofs.YtkmmnmicmjohgaaDoor
open Go.RowKit Slots

/-- Add and Drop, in one form: what they tell of a handle. -/
theorem ref_drop {w : World} {v : Value} {x : Rf} (h : RfAt w v x) (hok : RfOk x) (a : Int × Int) (ha : 0 ≤ a.2 ∧ a.2 ≤ 1000000) :
    Calls Tryd.prog 35 #[v, .agg #[.int .i64 a.1, .int .u64 a.2]] w fun e w' => (∃ v', e = .returned (.tuple #[v', .int .i64 ((x.drop a).2.getD 0), .int .i64 (if x.live a then 0 else 7)]) ∧ RfAt w' v' (x.drop a).1) ∧ Below w.heap.size w w' := by
  by_cases hv : x.live a
  · rw [if_pos hv]
    obtain ⟨i, gen⟩ := a
    have h0 := hv.1
    simp only at h0
    obtain ⟨n, rfl⟩ := Int.eq_ofNat_of_zero_le h0
    have hd : (x.drop ((n : Int), gen)).2 = some (x.count n - 1) := by
      have := hv.2.2.1
      simp only at this
      unfold Rf.drop
      rw [if_pos hv]
      split
      · rfl
      · show some 0 = _
        rw [show x.count n - 1 = 0 by simp only at *; omega]
    rw [hd]
    exact ref_drop_live h hok.len n gen hv (by have := hok.cnt n; omega) ha (by have := hok.free; omega)
  · rw [if_neg hv]
    have hd : x.drop a = (x, none) := by unfold Rf.drop; rw [if_neg hv]
    rw [hd]
    exact ref_drop_stale h hok.len a hv

theorem RfV.farT {w : World} {A0 A1 A2 : Option Addr} {c0 c1 c2 : Nat} {x : Rf} (h : RfV w A0 A1 A2 c0 c1 c2 x) {g : Nat} {cs : Array Value} (hg : Blk w g 30 cs) (i : Nat) (u : Value) : RfV (w.setCell ⟨g, i, none⟩ u) A0 A1 A2 c0 c1 c2 x :=
  ⟨h.g.farT hg (by decide) i u, h.c.farT hg (by decide) i u, h.f.farT hg (by decide) i u, h.cg, h.cc, h.cf, h.lg, h.lc, h.lf⟩
theorem do_keep {w0 w : World} {u0 u1 u2 u3 a0 a1 a2 : Value} {cc cd : Array Value} (h : DoSt w0 w #[u0, u1, u2, u3] #[a0, a1, a2] cc cd) :
    w.cell? ⟨w0.heap.size, 0, none⟩ = some u0 ∧ w.cell? ⟨w0.heap.size, 1, none⟩ = some u1 ∧ w.cell? ⟨w0.heap.size, 2, none⟩ = some u2 ∧ w.cell? ⟨w0.heap.size, 3, none⟩ = some u3 ∧ w.cell? ⟨w0.heap.size + 1, 0, none⟩ = some a0 ∧ w.cell? ⟨w0.heap.size + 1, 1, none⟩ = some a1 ∧ w.cell? ⟨w0.heap.size + 1, 2, none⟩ = some a2 :=
  ⟨(h.b0.cell 0).trans rfl, (h.b0.cell 1).trans rfl, (h.b0.cell 2).trans rfl, (h.b0.cell 3).trans rfl, (h.b1.cell 0).trans rfl, (h.b1.cell 1).trans rfl, (h.b1.cell 2).trans rfl⟩
theorem RfV.farH {w : World} {A0 A1 A2 : Option Addr} {c0 c1 c2 : Nat} {x : Rf} (h : RfV w A0 A1 A2 c0 c1 c2 x) {g : Nat} {cs : Array Value} (hg : Blk w g 34 cs) (i : Nat) (u : Value) : RfV (w.setCell ⟨g, i, none⟩ u) A0 A1 A2 c0 c1 c2 x :=
  ⟨h.g.farT hg (by decide) i u, h.c.farT hg (by decide) i u, h.f.farT hg (by decide) i u, h.cg, h.cc, h.cf, h.lg, h.lc, h.lf⟩
theorem do_b3 {w0 w : World} {ca cb cc : Array Value} {x0 x1 : Value} (h : DoSt w0 w ca cb cc #[x0, x1]) (v0 v1 v2 v3 y0 : Value) :
    Blk ((((w.setCell ⟨w0.heap.size + 1 + 1, 0, none⟩ v0).setCell ⟨w0.heap.size + 1 + 1, 1, none⟩ v1).setCell ⟨w0.heap.size + 1 + 1, 2, none⟩ v2).setCell ⟨w0.heap.size + 1 + 1, 3, none⟩ v3) (w0.heap.size + 1 + 1 + 1) 34 #[x0, x1] ∧
    Blk (((((w.setCell ⟨w0.heap.size + 1 + 1, 0, none⟩ v0).setCell ⟨w0.heap.size + 1 + 1, 1, none⟩ v1).setCell ⟨w0.heap.size + 1 + 1, 2, none⟩ v2).setCell ⟨w0.heap.size + 1 + 1, 3, none⟩ v3).setCell ⟨w0.heap.size + 1 + 1 + 1, 0, none⟩ y0) (w0.heap.size + 1 + 1 + 1) 34 #[y0, x1] := by
  have h1 := (((h.b3.far (p := ⟨w0.heap.size + 1 + 1, 0, none⟩) (by simp) v0).far (p := ⟨w0.heap.size + 1 + 1, 1, none⟩) (by simp) v1).far (p := ⟨w0.heap.size + 1 + 1, 2, none⟩) (by simp) v2).far (p := ⟨w0.heap.size + 1 + 1, 3, none⟩) (by simp) v3
  exact ⟨h1, h1.set_ 0 y0⟩
/-- A box of its own written whole. -/
theorem box_set4 {w0 w : World} {ca cb cc cd : Array Value} {A0 A1 A2 : Option Addr} {c0 c1 c2 : Nat} {x : Rf} {g : Nat} {u0 u1 u2 u3 : Value} (hT : DoSt w0 w ca cb cc cd) (hR : RfV w A0 A1 A2 c0 c1 c2 x) (hG : Blk w g 30 #[u0, u1, u2, u3]) (hg : w0.heap.size + 4 ≤ g) (v0 v1 v2 v3 : Value) :
    DoSt w0 ((((w.setCell ⟨g, 0, none⟩ v0).setCell ⟨g, 1, none⟩ v1).setCell ⟨g, 2, none⟩ v2).setCell ⟨g, 3, none⟩ v3) ca cb cc cd ∧ RfV ((((w.setCell ⟨g, 0, none⟩ v0).setCell ⟨g, 1, none⟩ v1).setCell ⟨g, 2, none⟩ v2).setCell ⟨g, 3, none⟩ v3) A0 A1 A2 c0 c1 c2 x ∧ Blk ((((w.setCell ⟨g, 0, none⟩ v0).setCell ⟨g, 1, none⟩ v1).setCell ⟨g, 2, none⟩ v2).setCell ⟨g, 3, none⟩ v3) g 30 #[v0, v1, v2, v3] :=
  ⟨(((hT.far (p := ⟨g, 0, none⟩) hg v0).far (p := ⟨g, 1, none⟩) hg v1).far (p := ⟨g, 2, none⟩) hg v2).far (p := ⟨g, 3, none⟩) hg v3,
    (((hR.farT hG 0 v0).farT (hG.set_ 0 v0) 1 v1).farT ((hG.set_ 0 v0).set_ 1 v1) 2 v2).farT (((hG.set_ 0 v0).set_ 1 v1).set_ 2 v2) 3 v3,
    (((hG.set_ 0 v0).set_ 1 v1).set_ 2 v2).set_ 3 v3⟩
theorem box_new {w0 w : World} {ca cb cc cd : Array Value} {A0 A1 A2 : Option Addr} {c0 c1 c2 : Nat} {x : Rf} (hT : DoSt w0 w ca cb cc cd) (hR : RfV w A0 A1 A2 c0 c1 c2 x) (v0 v1 v2 v3 : Value) :
    DoSt w0 (w.alloc (.cells #[v0, v1, v2, v3] 30)) ca cb cc cd ∧ RfV (w.alloc (.cells #[v0, v1, v2, v3] 30)) A0 A1 A2 c0 c1 c2 x ∧ Blk (w.alloc (.cells #[v0, v1, v2, v3] 30)) w.heap.size 30 #[v0, v1, v2, v3] :=
  ⟨hT.alloc _, hR.keep ((Below.refl _ _).alloc (Nat.le_refl _) _), Blk.new _ _ _⟩

set_option maxHeartbeats 8000000 in
theorem ref_do_add {w : World} {v : Value} {x : Rf} (h : RfAt w v x) (hok : RfOk x) (k c d : Int) (hk : 0 ≤ k ∧ k ≤ 255) (hc : 0 ≤ c ∧ c ≤ 255) (hd : 0 ≤ d ∧ d ≤ 255) (h4 : k % 4 = 1) :
    Calls Tryd.prog 23 #[v, .agg #[.int .u8 k, .int .u8 c, .int .u8 d]] w fun e w' =>
      (∃ v', e = .returned (.tuple #[v', .agg #[.int .i64 0, .int .u64 0], .int .i64 0, .int .i64 (if x.live (handleOf c d) then 0 else 7)]) ∧ RfAt w' v' (x.add (handleOf c d)).1) ∧ Below w.heap.size w w' := by
  obtain ⟨A0, A1, A2, c0, c1, c2, rfl, h⟩ := h
  have hT := do_blocks w #[.slice A0 x.gens.length c0, .slice A1 x.counts.length c1, .slice A2 x.free.length c2, .int .u64 x.last] #[.int .u8 k, .int .u8 c, .int .u8 d] #[.slice none 0 0, .slice none 0 0, .slice none 0 0, .int .u64 0] #[.int .i64 0, .int .u64 0]
  have HT := Lib.hid hT
  have HH := Lib.hid h
  have HOK := Lib.hid hok
  obtain ⟨ho, hho⟩ : ∃ ho, ho = handleOf c d := ⟨_, rfl⟩
  obtain ⟨r0, hr0⟩ : ∃ r : Int, r = 0 := ⟨_, rfl⟩
  obtain ⟨r1, hr1⟩ : ∃ r : Int, r = (if x.live ho then 0 else 7) := ⟨_, rfl⟩
  obtain ⟨y, hy⟩ : ∃ y : Rf, y = (x.add ho).1 := ⟨_, rfl⟩
  have hg : 0 ≤ ho.2 ∧ ho.2 ≤ 1000000 := by rw [hho]; show 0 ≤ d % 5 ∧ d % 5 ≤ 1000000; omega
  rw [← hho, ← hr1, ← hy]
  have HR := Lib.hid (And.intro hr0 (And.intro hr1 hy))
  have HHO := Lib.hid hho
  have HG := Lib.hid hg
  clear h hT hr0 hr1 hho hok hy hg
  go_enter Tryd.func23, Tryd.ntmps23
  go_wp2_with fail
  generalize (((w.alloc (.cells #[.slice A0 x.gens.length c0, .slice A1 x.counts.length c1, .slice A2 x.free.length c2, .int .u64 x.last] 30)).alloc (.cells #[.int .u8 k, .int .u8 c, .int .u8 d] 56)).alloc (.cells #[.slice none 0 0, .slice none 0 0, .slice none 0 0, .int .u64 0] 30)).alloc (.cells #[.int .i64 0, .int .u64 0] 34) = W at HT ⊢
  have p0 := HT.out.b0.cell 0
  have p1 := HT.out.b0.cell 1
  have p2 := HT.out.b0.cell 2
  have p3 := HT.out.b0.cell 3
  have q0 := HT.out.b1.cell 0
  have q1 := HT.out.b1.cell 1
  have q2 := HT.out.b1.cell 2
  simp only [List.getElem?_toArray, List.getElem?_cons_zero, List.getElem?_cons_succ] at p0 p1 p2 p3 q0 q1 q2
  go_wp2_with fail
  have zW := HT.out.sz
  have n0 : ¬ w.heap.size = W.heap.size := by omega
  have n1 : ¬ w.heap.size + 1 = W.heap.size := by omega
  have n2 : ¬ W.heap.size = w.heap.size := by omega
  have n3 : ¬ W.heap.size = w.heap.size + 1 := by omega
  go_region_held3 (fun w' => w'.cell? ⟨w.heap.size, 0, none⟩ = some (.slice A0 x.gens.length c0) ∧ w'.cell? ⟨w.heap.size, 1, none⟩ = some (.slice A1 x.counts.length c1) ∧ w'.cell? ⟨w.heap.size, 2, none⟩ = some (.slice A2 x.free.length c2) ∧ w'.cell? ⟨w.heap.size, 3, none⟩ = some (.int .u64 x.last) ∧ w'.cell? ⟨w.heap.size + 1, 0, none⟩ = some (.int .u8 k) ∧ w'.cell? ⟨w.heap.size + 1, 1, none⟩ = some (.int .u8 c) ∧ w'.cell? ⟨w.heap.size + 1, 2, none⟩ = some (.int .u8 d))
    (first | (with_reducible exact ⟨p0, p1, p2, p3, q0, q1, q2⟩) | (with_reducible exact ⟨p01, p11, p21, p31, q01, q11, q21⟩) | (with_reducible exact ⟨p02, p12, p22, p32, q02, q12, q22⟩) | (with_reducible exact do_keep HT.out.drew) | (with_reducible exact do_keep (HT.out.alloc _)) | (with_reducible exact do_keep (HT.out.alloc _).drew) | (with_reducible exact do_keep (HT1.out.alloc _)) | (with_reducible exact do_keep (HT1.out.alloc _).drew) | (with_reducible exact do_keep (HT2.out.alloc _)) | (with_reducible exact do_keep (box_set4 HT2.out HR2.out HX2.out zW _ _ _ _).1) | (with_reducible exact do_keep (box_set4 HT2.out HR2.out HX2.out z1 _ _ _ _).1) | (trace "KEEP"; go_keep))
    (first
      | (go_at_call 19; refine (ref_handle k c d hc hd _).mono ?_; rintro e w1 ⟨rfl, hb1⟩; (with_reducible (have hb1' : Below W.drew.heap.size W.drew w1 := hb1)); clear hb1'; rw [← HHO.out]; have hT1 := HT.out.drew.keep hb1; have p01 := hT1.b0.cell 0; have p11 := hT1.b0.cell 1; have p21 := hT1.b0.cell 2; have p31 := hT1.b0.cell 3; have q01 := hT1.b1.cell 0; have q11 := hT1.b1.cell 1; have q21 := hT1.b1.cell 2; simp only [List.getElem?_toArray, List.getElem?_cons_zero, List.getElem?_cons_succ] at p01 p11 p21 p31 q01 q11 q21; have z1 := hT1.sz; have HT1 := Lib.hid hT1; have m0 : ¬ w.heap.size = w1.heap.size := (by omega); have m1 : ¬ w.heap.size + 1 = w1.heap.size := (by omega); have m2 : ¬ w1.heap.size = w.heap.size := (by omega); have m3 : ¬ w1.heap.size = w.heap.size + 1 := (by omega); clear hT1 hb1)
      | (go_at_call 19; refine (ref_handle k c d hc hd _).mono ?_; rintro e w1 ⟨rfl, hb1⟩; (with_reducible (have hb1' : Below (W.alloc (.cells #[.slice none 0 0, .slice none 0 0, .slice none 0 0, .int .u64 0] 30)).drew.heap.size (W.alloc (.cells #[.slice none 0 0, .slice none 0 0, .slice none 0 0, .int .u64 0] 30)).drew w1 := hb1)); clear hb1'; rw [← HHO.out]; have hT1 := (HT.out.alloc (.cells #[.slice none 0 0, .slice none 0 0, .slice none 0 0, .int .u64 0] 30)).drew.keep hb1; have HX1 := Lib.hid ((Blk.new W 30 #[.slice none 0 0, .slice none 0 0, .slice none 0 0, .int .u64 0]).drew.keep hb1); have p01 := hT1.b0.cell 0; have p11 := hT1.b0.cell 1; have p21 := hT1.b0.cell 2; have p31 := hT1.b0.cell 3; have q01 := hT1.b1.cell 0; have q11 := hT1.b1.cell 1; have q21 := hT1.b1.cell 2; simp only [List.getElem?_toArray, List.getElem?_cons_zero, List.getElem?_cons_succ] at p01 p11 p21 p31 q01 q11 q21; have z1 := hT1.sz; have HT1 := Lib.hid hT1; have m0 : ¬ w.heap.size = w1.heap.size := (by omega); have m1 : ¬ w.heap.size + 1 = w1.heap.size := (by omega); have m2 : ¬ w1.heap.size = w.heap.size := (by omega); have m3 : ¬ w1.heap.size = w.heap.size + 1 := (by omega); clear hT1 hb1)
      | (go_at_call 34; have hcc := ref_add (w := w1) (x := x) ⟨A0, A1, A2, c0, c1, c2, rfl, HH.out.keep HT1.out.be⟩ HOK.out.len ho ⟨by have := HOK.out.cnt ho.1; omega, by have := HOK.out.cnt ho.1; omega⟩; rw [← HR.out.2.1, ← HR.out.2.2] at hcc; (with_reducible refine hcc.mono ?_); clear hcc; rintro e w2 ⟨⟨v2, rfl, B0, B1, B2, k0, k1, k2, hv2, hr2⟩, hb2⟩; subst hv2; have hT2 := HT1.out.keep hb2; have HX2 := Lib.hid (HX1.out.keep hb2); have g0 := HX2.out.cell 0; have g1 := HX2.out.cell 1; have g2 := HX2.out.cell 2; have g3 := HX2.out.cell 3; have fg := HX2.out.frozen; simp only [List.getElem?_toArray, List.getElem?_cons_zero, List.getElem?_cons_succ] at g0 g1 g2 g3; have p02 := hT2.b0.cell 0; have p12 := hT2.b0.cell 1; have p22 := hT2.b0.cell 2; have p32 := hT2.b0.cell 3; have q02 := hT2.b1.cell 0; have q12 := hT2.b1.cell 1; have q22 := hT2.b1.cell 2; simp only [List.getElem?_toArray, List.getElem?_cons_zero, List.getElem?_cons_succ] at p02 p12 p22 p32 q02 q12 q22; have z2 := hT2.sz; have HT2 := Lib.hid hT2; have HR2 := Lib.hid hr2; have l0 : w.heap.size < w2.heap.size := (by omega); have l1 : w.heap.size + 1 < w2.heap.size := (by omega); clear hT2 hr2 hb2)
      | (go_at_call 34; have hcc := ref_add (w := w1) (x := x) ⟨A0, A1, A2, c0, c1, c2, rfl, HH.out.keep HT1.out.be⟩ HOK.out.len ho ⟨by have := HOK.out.cnt ho.1; omega, by have := HOK.out.cnt ho.1; omega⟩; rw [← HR.out.2.1, ← HR.out.2.2] at hcc; (with_reducible refine hcc.mono ?_); clear hcc; rintro e w2 ⟨⟨v2, rfl, B0, B1, B2, k0, k1, k2, hv2, hr2⟩, hb2⟩; subst hv2; have hT2 := HT1.out.keep hb2; have p02 := hT2.b0.cell 0; have p12 := hT2.b0.cell 1; have p22 := hT2.b0.cell 2; have p32 := hT2.b0.cell 3; have q02 := hT2.b1.cell 0; have q12 := hT2.b1.cell 1; have q22 := hT2.b1.cell 2; simp only [List.getElem?_toArray, List.getElem?_cons_zero, List.getElem?_cons_succ] at p02 p12 p22 p32 q02 q12 q22; have z2 := hT2.sz; have HT2 := Lib.hid hT2; have HR2 := Lib.hid hr2; have l0 : w.heap.size < w2.heap.size := (by omega); have l1 : w.heap.size + 1 < w2.heap.size := (by omega); clear hT2 hr2 hb2)
      | (go_at_call 34; have hcc := ref_add (w := w1.alloc (.cells #[.slice none 0 0, .slice none 0 0, .slice none 0 0, .int .u64 0] 30)) (x := x) ⟨A0, A1, A2, c0, c1, c2, rfl, HH.out.keep (HT1.out.alloc (.cells #[.slice none 0 0, .slice none 0 0, .slice none 0 0, .int .u64 0] 30)).be⟩ HOK.out.len ho ⟨by have := HOK.out.cnt ho.1; omega, by have := HOK.out.cnt ho.1; omega⟩; rw [← HR.out.2.1, ← HR.out.2.2] at hcc; (with_reducible refine hcc.mono ?_); clear hcc; rintro e w2 ⟨⟨v2, rfl, B0, B1, B2, k0, k1, k2, hv2, hr2⟩, hb2⟩; subst hv2; have hT2 := (HT1.out.alloc (.cells #[.slice none 0 0, .slice none 0 0, .slice none 0 0, .int .u64 0] 30)).keep hb2; have HX2 := Lib.hid ((Blk.new w1 30 #[.slice none 0 0, .slice none 0 0, .slice none 0 0, .int .u64 0]).keep hb2); have g0 := HX2.out.cell 0; have g1 := HX2.out.cell 1; have g2 := HX2.out.cell 2; have g3 := HX2.out.cell 3; have fg := HX2.out.frozen; simp only [List.getElem?_toArray, List.getElem?_cons_zero, List.getElem?_cons_succ] at g0 g1 g2 g3; have p02 := hT2.b0.cell 0; have p12 := hT2.b0.cell 1; have p22 := hT2.b0.cell 2; have p32 := hT2.b0.cell 3; have q02 := hT2.b1.cell 0; have q12 := hT2.b1.cell 1; have q22 := hT2.b1.cell 2; simp only [List.getElem?_toArray, List.getElem?_cons_zero, List.getElem?_cons_succ] at p02 p12 p22 p32 q02 q12 q22; have z2 := hT2.sz; have HT2 := Lib.hid hT2; have HR2 := Lib.hid hr2; have l0 : w.heap.size < w2.heap.size := (by omega); have l1 : w.heap.size + 1 < w2.heap.size := (by omega); clear hT2 hr2 hb2))
  all_goals first
    | ((with_reducible (have hx : Blk w2 W.heap.size 30 #[.slice none 0 0, .slice none 0 0, .slice none 0 0, .int .u64 0] := HX2.out))
       obtain ⟨m1, m2, m3⟩ := box_set4 HT2.out HR2.out hx zW (.slice B0 y.gens.length k0) (.slice B1 y.counts.length k1) (.slice B2 y.free.length k2) (.int .u64 y.last)
       generalize (((w2.setCell ⟨W.heap.size, 0, none⟩ (.slice B0 y.gens.length k0)).setCell ⟨W.heap.size, 1, none⟩ (.slice B1 y.counts.length k1)).setCell ⟨W.heap.size, 2, none⟩ (.slice B2 y.free.length k2)).setCell ⟨W.heap.size, 3, none⟩ (.int .u64 y.last) = W9 at m1 m2 m3 ⊢
       generalize hgx : W.heap.size = gx at m3 ⊢
       have HGX := Lib.hid (show w.heap.size + 4 ≤ gx by omega)
       clear hgx)
    | ((with_reducible (have hx : Blk w2 w1.heap.size 30 #[.slice none 0 0, .slice none 0 0, .slice none 0 0, .int .u64 0] := HX2.out))
       obtain ⟨m1, m2, m3⟩ := box_set4 HT2.out HR2.out hx z1 (.slice B0 y.gens.length k0) (.slice B1 y.counts.length k1) (.slice B2 y.free.length k2) (.int .u64 y.last)
       generalize (((w2.setCell ⟨w1.heap.size, 0, none⟩ (.slice B0 y.gens.length k0)).setCell ⟨w1.heap.size, 1, none⟩ (.slice B1 y.counts.length k1)).setCell ⟨w1.heap.size, 2, none⟩ (.slice B2 y.free.length k2)).setCell ⟨w1.heap.size, 3, none⟩ (.int .u64 y.last) = W9 at m1 m2 m3 ⊢
       generalize hgx : w1.heap.size = gx at m3 ⊢
       have HGX := Lib.hid (show w.heap.size + 4 ≤ gx by omega)
       clear hgx)
    | (obtain ⟨m1, m2, m3⟩ := box_new HT2.out HR2.out (.slice B0 y.gens.length k0) (.slice B1 y.counts.length k1) (.slice B2 y.free.length k2) (.int .u64 y.last)
       generalize w2.alloc (.cells #[.slice B0 y.gens.length k0, .slice B1 y.counts.length k1, .slice B2 y.free.length k2, .int .u64 y.last] 30) = W9 at m1 m2 m3 ⊢
       generalize hgx : w2.heap.size = gx at m3 ⊢
       have HGX := Lib.hid (show w.heap.size + 4 ≤ gx by omega)
       clear hgx)
  all_goals (
    have M1 := Lib.hid m1
    have M2 := Lib.hid m2
    have M3 := Lib.hid m3
    have d0 := m3.cell 0
    have d1 := m3.cell 1
    have d2 := m3.cell 2
    have d3 := m3.cell 3
    have t0 := m1.b2.cell 0
    have t1 := m1.b2.cell 1
    have t2 := m1.b2.cell 2
    have t3 := m1.b2.cell 3
    have s0 := m1.b3.cell 0
    have s1 := m1.b3.cell 1
    have ft := m1.b2.frozen
    have fs := m1.b3.frozen
    simp only [List.getElem?_toArray, List.getElem?_cons_zero, List.getElem?_cons_succ] at d0 d1 d2 d3 t0 t1 t2 t3 s0 s1
    obtain ⟨kk, kk2, kb, kh⟩ := m1.result (.slice B0 y.gens.length k0) (.slice B1 y.counts.length k1) (.slice B2 y.free.length k2) (.int .u64 y.last) (.int .i64 0) (.int .u64 0)
    have K1 := Lib.hid kk
    have K2 := Lib.hid kk2
    have K3 := Lib.hid kb
    have hrr : RfV _ B0 B1 B2 k0 k1 k2 y := (((((m2.farT m1.b2 0 (.slice B0 y.gens.length k0)).farT (m1.b2.set_ 0 (.slice B0 y.gens.length k0)) 1 (.slice B1 y.counts.length k1)).farT ((m1.b2.set_ 0 (.slice B0 y.gens.length k0)).set_ 1 (.slice B1 y.counts.length k1)) 2 (.slice B2 y.free.length k2)).farT (((m1.b2.set_ 0 (.slice B0 y.gens.length k0)).set_ 1 (.slice B1 y.counts.length k1)).set_ 2 (.slice B2 y.free.length k2)) 3 (.int .u64 y.last)))
    have HRR := Lib.hid hrr
    have HB3 := Lib.hid (do_b3 m1 (.slice B0 y.gens.length k0) (.slice B1 y.counts.length k1) (.slice B2 y.free.length k2) (.int .u64 y.last) (.int .i64 0))
    clear m1 m2 m3 kk kk2 kb kh hrr
    go_wp2
    all_goals (
      refine bodyPost_ret (results_cell2_tmp2 rfl _ _ (w.heap.size + 1 + 1) (w.heap.size + 1 + 1 + 1) _ _ _ _ (0, 0) (0, 0) _ _ rfl K1.out Tryd.underlying30 rfl (by kernel_rfl) rfl K2.out Tryd.underlying34 rfl (by kernel_rfl)) rfl ?_
      refine ⟨⟨_, rfl, B0, B1, B2, k0, k1, k2, rfl, ?_⟩, K3.out⟩
      exact (HRR.out.farH HB3.out.1 0 (.int .i64 0)).farH HB3.out.2 1 (.int .u64 0)))
set_option maxHeartbeats 8000000 in
theorem ref_do_drop {w : World} {v : Value} {x : Rf} (h : RfAt w v x) (hok : RfOk x) (k c d : Int) (hk : 0 ≤ k ∧ k ≤ 255) (hc : 0 ≤ c ∧ c ≤ 255) (hd : 0 ≤ d ∧ d ≤ 255) (h4 : k % 4 = 2) :
    Calls Tryd.prog 23 #[v, .agg #[.int .u8 k, .int .u8 c, .int .u8 d]] w fun e w' =>
      (∃ v', e = .returned (.tuple #[v', .agg #[.int .i64 0, .int .u64 0], .int .i64 ((x.drop (handleOf c d)).2.getD 0), .int .i64 (if x.live (handleOf c d) then 0 else 7)]) ∧ RfAt w' v' (x.drop (handleOf c d)).1) ∧ Below w.heap.size w w' := by
  obtain ⟨A0, A1, A2, c0, c1, c2, rfl, h⟩ := h
  have hT := do_blocks w #[.slice A0 x.gens.length c0, .slice A1 x.counts.length c1, .slice A2 x.free.length c2, .int .u64 x.last] #[.int .u8 k, .int .u8 c, .int .u8 d] #[.slice none 0 0, .slice none 0 0, .slice none 0 0, .int .u64 0] #[.int .i64 0, .int .u64 0]
  have HT := Lib.hid hT
  have HH := Lib.hid h
  have HOK := Lib.hid hok
  obtain ⟨ho, hho⟩ : ∃ ho, ho = handleOf c d := ⟨_, rfl⟩
  obtain ⟨r0, hr0⟩ : ∃ r : Int, r = (x.drop ho).2.getD 0 := ⟨_, rfl⟩
  obtain ⟨r1, hr1⟩ : ∃ r : Int, r = (if x.live ho then 0 else 7) := ⟨_, rfl⟩
  obtain ⟨y, hy⟩ : ∃ y : Rf, y = (x.drop ho).1 := ⟨_, rfl⟩
  have hg : 0 ≤ ho.2 ∧ ho.2 ≤ 1000000 := by rw [hho]; show 0 ≤ d % 5 ∧ d % 5 ≤ 1000000; omega
  rw [← hho, ← hr0, ← hr1, ← hy]
  have HR := Lib.hid (And.intro hr0 (And.intro hr1 hy))
  have HHO := Lib.hid hho
  have HG := Lib.hid hg
  clear h hT hr0 hr1 hho hok hy hg
  go_enter Tryd.func23, Tryd.ntmps23
  go_wp2_with fail
  generalize (((w.alloc (.cells #[.slice A0 x.gens.length c0, .slice A1 x.counts.length c1, .slice A2 x.free.length c2, .int .u64 x.last] 30)).alloc (.cells #[.int .u8 k, .int .u8 c, .int .u8 d] 56)).alloc (.cells #[.slice none 0 0, .slice none 0 0, .slice none 0 0, .int .u64 0] 30)).alloc (.cells #[.int .i64 0, .int .u64 0] 34) = W at HT ⊢
  have p0 := HT.out.b0.cell 0
  have p1 := HT.out.b0.cell 1
  have p2 := HT.out.b0.cell 2
  have p3 := HT.out.b0.cell 3
  have q0 := HT.out.b1.cell 0
  have q1 := HT.out.b1.cell 1
  have q2 := HT.out.b1.cell 2
  simp only [List.getElem?_toArray, List.getElem?_cons_zero, List.getElem?_cons_succ] at p0 p1 p2 p3 q0 q1 q2
  go_wp2_with fail
  have zW := HT.out.sz
  have n0 : ¬ w.heap.size = W.heap.size := by omega
  have n1 : ¬ w.heap.size + 1 = W.heap.size := by omega
  have n2 : ¬ W.heap.size = w.heap.size := by omega
  have n3 : ¬ W.heap.size = w.heap.size + 1 := by omega
  go_region_held3 (fun w' => w'.cell? ⟨w.heap.size, 0, none⟩ = some (.slice A0 x.gens.length c0) ∧ w'.cell? ⟨w.heap.size, 1, none⟩ = some (.slice A1 x.counts.length c1) ∧ w'.cell? ⟨w.heap.size, 2, none⟩ = some (.slice A2 x.free.length c2) ∧ w'.cell? ⟨w.heap.size, 3, none⟩ = some (.int .u64 x.last) ∧ w'.cell? ⟨w.heap.size + 1, 0, none⟩ = some (.int .u8 k) ∧ w'.cell? ⟨w.heap.size + 1, 1, none⟩ = some (.int .u8 c) ∧ w'.cell? ⟨w.heap.size + 1, 2, none⟩ = some (.int .u8 d))
    (first | (with_reducible exact ⟨p0, p1, p2, p3, q0, q1, q2⟩) | (with_reducible exact ⟨p01, p11, p21, p31, q01, q11, q21⟩) | (with_reducible exact ⟨p02, p12, p22, p32, q02, q12, q22⟩) | (with_reducible exact do_keep HT.out.drew) | (with_reducible exact do_keep (HT.out.alloc _)) | (with_reducible exact do_keep (HT.out.alloc _).drew) | (with_reducible exact do_keep (HT1.out.alloc _)) | (with_reducible exact do_keep (HT1.out.alloc _).drew) | (with_reducible exact do_keep (HT2.out.alloc _)) | (with_reducible exact do_keep (box_set4 HT2.out HR2.out HX2.out zW _ _ _ _).1) | (with_reducible exact do_keep (box_set4 HT2.out HR2.out HX2.out z1 _ _ _ _).1) | (trace "KEEP"; go_keep))
    (first
      | (go_at_call 19; refine (ref_handle k c d hc hd _).mono ?_; rintro e w1 ⟨rfl, hb1⟩; (with_reducible (have hb1' : Below W.drew.heap.size W.drew w1 := hb1)); clear hb1'; rw [← HHO.out]; have hT1 := HT.out.drew.keep hb1; have p01 := hT1.b0.cell 0; have p11 := hT1.b0.cell 1; have p21 := hT1.b0.cell 2; have p31 := hT1.b0.cell 3; have q01 := hT1.b1.cell 0; have q11 := hT1.b1.cell 1; have q21 := hT1.b1.cell 2; simp only [List.getElem?_toArray, List.getElem?_cons_zero, List.getElem?_cons_succ] at p01 p11 p21 p31 q01 q11 q21; have z1 := hT1.sz; have HT1 := Lib.hid hT1; have m0 : ¬ w.heap.size = w1.heap.size := (by omega); have m1 : ¬ w.heap.size + 1 = w1.heap.size := (by omega); have m2 : ¬ w1.heap.size = w.heap.size := (by omega); have m3 : ¬ w1.heap.size = w.heap.size + 1 := (by omega); clear hT1 hb1)
      | (go_at_call 19; refine (ref_handle k c d hc hd _).mono ?_; rintro e w1 ⟨rfl, hb1⟩; (with_reducible (have hb1' : Below (W.alloc (.cells #[.slice none 0 0, .slice none 0 0, .slice none 0 0, .int .u64 0] 30)).drew.heap.size (W.alloc (.cells #[.slice none 0 0, .slice none 0 0, .slice none 0 0, .int .u64 0] 30)).drew w1 := hb1)); clear hb1'; rw [← HHO.out]; have hT1 := (HT.out.alloc (.cells #[.slice none 0 0, .slice none 0 0, .slice none 0 0, .int .u64 0] 30)).drew.keep hb1; have HX1 := Lib.hid ((Blk.new W 30 #[.slice none 0 0, .slice none 0 0, .slice none 0 0, .int .u64 0]).drew.keep hb1); have p01 := hT1.b0.cell 0; have p11 := hT1.b0.cell 1; have p21 := hT1.b0.cell 2; have p31 := hT1.b0.cell 3; have q01 := hT1.b1.cell 0; have q11 := hT1.b1.cell 1; have q21 := hT1.b1.cell 2; simp only [List.getElem?_toArray, List.getElem?_cons_zero, List.getElem?_cons_succ] at p01 p11 p21 p31 q01 q11 q21; have z1 := hT1.sz; have HT1 := Lib.hid hT1; have m0 : ¬ w.heap.size = w1.heap.size := (by omega); have m1 : ¬ w.heap.size + 1 = w1.heap.size := (by omega); have m2 : ¬ w1.heap.size = w.heap.size := (by omega); have m3 : ¬ w1.heap.size = w.heap.size + 1 := (by omega); clear hT1 hb1)
      | (go_at_call 35; have hcc := ref_drop (w := w1) (x := x) ⟨A0, A1, A2, c0, c1, c2, rfl, HH.out.keep HT1.out.be⟩ HOK.out ho HG.out; rw [← HR.out.1, ← HR.out.2.1, ← HR.out.2.2] at hcc; (with_reducible refine hcc.mono ?_); clear hcc; rintro e w2 ⟨⟨v2, rfl, B0, B1, B2, k0, k1, k2, hv2, hr2⟩, hb2⟩; subst hv2; have hT2 := HT1.out.keep hb2; have HX2 := Lib.hid (HX1.out.keep hb2); have g0 := HX2.out.cell 0; have g1 := HX2.out.cell 1; have g2 := HX2.out.cell 2; have g3 := HX2.out.cell 3; have fg := HX2.out.frozen; simp only [List.getElem?_toArray, List.getElem?_cons_zero, List.getElem?_cons_succ] at g0 g1 g2 g3; have p02 := hT2.b0.cell 0; have p12 := hT2.b0.cell 1; have p22 := hT2.b0.cell 2; have p32 := hT2.b0.cell 3; have q02 := hT2.b1.cell 0; have q12 := hT2.b1.cell 1; have q22 := hT2.b1.cell 2; simp only [List.getElem?_toArray, List.getElem?_cons_zero, List.getElem?_cons_succ] at p02 p12 p22 p32 q02 q12 q22; have z2 := hT2.sz; have HT2 := Lib.hid hT2; have HR2 := Lib.hid hr2; have l0 : w.heap.size < w2.heap.size := (by omega); have l1 : w.heap.size + 1 < w2.heap.size := (by omega); clear hT2 hr2 hb2)
      | (go_at_call 35; have hcc := ref_drop (w := w1) (x := x) ⟨A0, A1, A2, c0, c1, c2, rfl, HH.out.keep HT1.out.be⟩ HOK.out ho HG.out; rw [← HR.out.1, ← HR.out.2.1, ← HR.out.2.2] at hcc; (with_reducible refine hcc.mono ?_); clear hcc; rintro e w2 ⟨⟨v2, rfl, B0, B1, B2, k0, k1, k2, hv2, hr2⟩, hb2⟩; subst hv2; have hT2 := HT1.out.keep hb2; have p02 := hT2.b0.cell 0; have p12 := hT2.b0.cell 1; have p22 := hT2.b0.cell 2; have p32 := hT2.b0.cell 3; have q02 := hT2.b1.cell 0; have q12 := hT2.b1.cell 1; have q22 := hT2.b1.cell 2; simp only [List.getElem?_toArray, List.getElem?_cons_zero, List.getElem?_cons_succ] at p02 p12 p22 p32 q02 q12 q22; have z2 := hT2.sz; have HT2 := Lib.hid hT2; have HR2 := Lib.hid hr2; have l0 : w.heap.size < w2.heap.size := (by omega); have l1 : w.heap.size + 1 < w2.heap.size := (by omega); clear hT2 hr2 hb2)
      | (go_at_call 35; have hcc := ref_drop (w := w1.alloc (.cells #[.slice none 0 0, .slice none 0 0, .slice none 0 0, .int .u64 0] 30)) (x := x) ⟨A0, A1, A2, c0, c1, c2, rfl, HH.out.keep (HT1.out.alloc (.cells #[.slice none 0 0, .slice none 0 0, .slice none 0 0, .int .u64 0] 30)).be⟩ HOK.out ho HG.out; rw [← HR.out.1, ← HR.out.2.1, ← HR.out.2.2] at hcc; (with_reducible refine hcc.mono ?_); clear hcc; rintro e w2 ⟨⟨v2, rfl, B0, B1, B2, k0, k1, k2, hv2, hr2⟩, hb2⟩; subst hv2; have hT2 := (HT1.out.alloc (.cells #[.slice none 0 0, .slice none 0 0, .slice none 0 0, .int .u64 0] 30)).keep hb2; have HX2 := Lib.hid ((Blk.new w1 30 #[.slice none 0 0, .slice none 0 0, .slice none 0 0, .int .u64 0]).keep hb2); have g0 := HX2.out.cell 0; have g1 := HX2.out.cell 1; have g2 := HX2.out.cell 2; have g3 := HX2.out.cell 3; have fg := HX2.out.frozen; simp only [List.getElem?_toArray, List.getElem?_cons_zero, List.getElem?_cons_succ] at g0 g1 g2 g3; have p02 := hT2.b0.cell 0; have p12 := hT2.b0.cell 1; have p22 := hT2.b0.cell 2; have p32 := hT2.b0.cell 3; have q02 := hT2.b1.cell 0; have q12 := hT2.b1.cell 1; have q22 := hT2.b1.cell 2; simp only [List.getElem?_toArray, List.getElem?_cons_zero, List.getElem?_cons_succ] at p02 p12 p22 p32 q02 q12 q22; have z2 := hT2.sz; have HT2 := Lib.hid hT2; have HR2 := Lib.hid hr2; have l0 : w.heap.size < w2.heap.size := (by omega); have l1 : w.heap.size + 1 < w2.heap.size := (by omega); clear hT2 hr2 hb2))
  all_goals first
    | ((with_reducible (have hx : Blk w2 W.heap.size 30 #[.slice none 0 0, .slice none 0 0, .slice none 0 0, .int .u64 0] := HX2.out))
       obtain ⟨m1, m2, m3⟩ := box_set4 HT2.out HR2.out hx zW (.slice B0 y.gens.length k0) (.slice B1 y.counts.length k1) (.slice B2 y.free.length k2) (.int .u64 y.last)
       generalize (((w2.setCell ⟨W.heap.size, 0, none⟩ (.slice B0 y.gens.length k0)).setCell ⟨W.heap.size, 1, none⟩ (.slice B1 y.counts.length k1)).setCell ⟨W.heap.size, 2, none⟩ (.slice B2 y.free.length k2)).setCell ⟨W.heap.size, 3, none⟩ (.int .u64 y.last) = W9 at m1 m2 m3 ⊢
       generalize hgx : W.heap.size = gx at m3 ⊢
       have HGX := Lib.hid (show w.heap.size + 4 ≤ gx by omega)
       clear hgx)
    | ((with_reducible (have hx : Blk w2 w1.heap.size 30 #[.slice none 0 0, .slice none 0 0, .slice none 0 0, .int .u64 0] := HX2.out))
       obtain ⟨m1, m2, m3⟩ := box_set4 HT2.out HR2.out hx z1 (.slice B0 y.gens.length k0) (.slice B1 y.counts.length k1) (.slice B2 y.free.length k2) (.int .u64 y.last)
       generalize (((w2.setCell ⟨w1.heap.size, 0, none⟩ (.slice B0 y.gens.length k0)).setCell ⟨w1.heap.size, 1, none⟩ (.slice B1 y.counts.length k1)).setCell ⟨w1.heap.size, 2, none⟩ (.slice B2 y.free.length k2)).setCell ⟨w1.heap.size, 3, none⟩ (.int .u64 y.last) = W9 at m1 m2 m3 ⊢
       generalize hgx : w1.heap.size = gx at m3 ⊢
       have HGX := Lib.hid (show w.heap.size + 4 ≤ gx by omega)
       clear hgx)
    | (obtain ⟨m1, m2, m3⟩ := box_new HT2.out HR2.out (.slice B0 y.gens.length k0) (.slice B1 y.counts.length k1) (.slice B2 y.free.length k2) (.int .u64 y.last)
       generalize w2.alloc (.cells #[.slice B0 y.gens.length k0, .slice B1 y.counts.length k1, .slice B2 y.free.length k2, .int .u64 y.last] 30) = W9 at m1 m2 m3 ⊢
       generalize hgx : w2.heap.size = gx at m3 ⊢
       have HGX := Lib.hid (show w.heap.size + 4 ≤ gx by omega)
       clear hgx)
  all_goals (
    have M1 := Lib.hid m1
    have M2 := Lib.hid m2
    have M3 := Lib.hid m3
    have d0 := m3.cell 0
    have d1 := m3.cell 1
    have d2 := m3.cell 2
    have d3 := m3.cell 3
    have t0 := m1.b2.cell 0
    have t1 := m1.b2.cell 1
    have t2 := m1.b2.cell 2
    have t3 := m1.b2.cell 3
    have s0 := m1.b3.cell 0
    have s1 := m1.b3.cell 1
    have ft := m1.b2.frozen
    have fs := m1.b3.frozen
    simp only [List.getElem?_toArray, List.getElem?_cons_zero, List.getElem?_cons_succ] at d0 d1 d2 d3 t0 t1 t2 t3 s0 s1
    obtain ⟨kk, kk2, kb, kh⟩ := m1.result (.slice B0 y.gens.length k0) (.slice B1 y.counts.length k1) (.slice B2 y.free.length k2) (.int .u64 y.last) (.int .i64 0) (.int .u64 0)
    have K1 := Lib.hid kk
    have K2 := Lib.hid kk2
    have K3 := Lib.hid kb
    have hrr : RfV _ B0 B1 B2 k0 k1 k2 y := (((((m2.farT m1.b2 0 (.slice B0 y.gens.length k0)).farT (m1.b2.set_ 0 (.slice B0 y.gens.length k0)) 1 (.slice B1 y.counts.length k1)).farT ((m1.b2.set_ 0 (.slice B0 y.gens.length k0)).set_ 1 (.slice B1 y.counts.length k1)) 2 (.slice B2 y.free.length k2)).farT (((m1.b2.set_ 0 (.slice B0 y.gens.length k0)).set_ 1 (.slice B1 y.counts.length k1)).set_ 2 (.slice B2 y.free.length k2)) 3 (.int .u64 y.last)))
    have HRR := Lib.hid hrr
    have HB3 := Lib.hid (do_b3 m1 (.slice B0 y.gens.length k0) (.slice B1 y.counts.length k1) (.slice B2 y.free.length k2) (.int .u64 y.last) (.int .i64 0))
    clear m1 m2 m3 kk kk2 kb kh hrr
    go_wp2
    all_goals (
      refine bodyPost_ret (results_cell2_tmp2 rfl _ _ (w.heap.size + 1 + 1) (w.heap.size + 1 + 1 + 1) _ _ _ _ (0, 0) (0, 0) _ _ rfl K1.out Tryd.underlying30 rfl (by kernel_rfl) rfl K2.out Tryd.underlying34 rfl (by kernel_rfl)) rfl ?_
      refine ⟨⟨_, rfl, B0, B1, B2, k0, k1, k2, rfl, ?_⟩, K3.out⟩
      exact (HRR.out.farH HB3.out.1 0 (.int .i64 0)).farH HB3.out.2 1 (.int .u64 0)))
end Go.Proofs.YtkmmnmicmjohgaaDoor

namespace Go.Proofs.YtkmmnmicmjohgaaDoor
open Go.RowKit Slots

theorem ref_take {w : World} {v : Value} {x : Rf} (h : RfAt w v x) (hok : RfOk x) :
    Calls Tryd.prog 33 #[v] w fun e w' => (∃ v', e = .returned (.tuple #[v', .agg #[.int .i64 (x.take.2.getD (0, 0)).1, .int .u64 (x.take.2.getD (0, 0)).2], .int .i64 (if x.free = [] then 8 else 0)]) ∧ RfAt w' v' x.take.1) ∧ Below w.heap.size w w' := by
  cases hf : x.free with
  | nil =>
    have ht : x.take = (x, none) := by unfold Rf.take; rw [hf]
    rw [ht, if_pos rfl]
    exact ref_take_none h hf
  | cons n l =>
    have hr := hok.rng n (by rw [hf]; exact List.mem_cons_self ..)
    obtain ⟨m, rfl⟩ := Int.eq_ofNat_of_zero_le hr.1
    have ht : x.take = ({ x.with_ m (x.gen m) 1 with free := l }, some ((m : Int), x.gen m)) := by unfold Rf.take; rw [hf]
    rw [ht, if_neg (by simp)]
    exact ref_take_some h hf (by omega) hok.len

set_option maxHeartbeats 8000000 in
theorem ref_do_take {w : World} {v : Value} {x : Rf} (h : RfAt w v x) (hok : RfOk x) (k c d : Int) (hk : 0 ≤ k ∧ k ≤ 255) (h4 : k % 4 = 0) :
    Calls Tryd.prog 23 #[v, .agg #[.int .u8 k, .int .u8 c, .int .u8 d]] w fun e w' =>
      (∃ v', e = .returned (.tuple #[v', .agg #[.int .i64 (x.take.2.getD (0, 0)).1, .int .u64 (x.take.2.getD (0, 0)).2], .int .i64 0, .int .i64 (if x.free = [] then 8 else 0)]) ∧ RfAt w' v' x.take.1) ∧ Below w.heap.size w w' := by
  obtain ⟨A0, A1, A2, c0, c1, c2, rfl, h⟩ := h
  have hT := do_blocks w #[.slice A0 x.gens.length c0, .slice A1 x.counts.length c1, .slice A2 x.free.length c2, .int .u64 x.last] #[.int .u8 k, .int .u8 c, .int .u8 d] #[.slice none 0 0, .slice none 0 0, .slice none 0 0, .int .u64 0] #[.int .i64 0, .int .u64 0]
  have HT := Lib.hid hT
  have HH := Lib.hid h
  have HOK := Lib.hid hok
  obtain ⟨r0, hr0⟩ : ∃ r, r = x.take.2.getD (0, 0) := ⟨_, rfl⟩
  obtain ⟨r1, hr1⟩ : ∃ r : Int, r = (if x.free = [] then 8 else 0) := ⟨_, rfl⟩
  obtain ⟨y, hy⟩ : ∃ y : Rf, y = x.take.1 := ⟨_, rfl⟩
  rw [← hr0, ← hr1, ← hy]
  have HR := Lib.hid (And.intro hr0 (And.intro hr1 hy))
  clear h hT hr0 hr1 hok hy
  go_enter Tryd.func23, Tryd.ntmps23
  go_wp2_with fail
  generalize (((w.alloc (.cells #[.slice A0 x.gens.length c0, .slice A1 x.counts.length c1, .slice A2 x.free.length c2, .int .u64 x.last] 30)).alloc (.cells #[.int .u8 k, .int .u8 c, .int .u8 d] 56)).alloc (.cells #[.slice none 0 0, .slice none 0 0, .slice none 0 0, .int .u64 0] 30)).alloc (.cells #[.int .i64 0, .int .u64 0] 34) = W at HT ⊢
  have hcc := ref_take (x := x) ⟨A0, A1, A2, c0, c1, c2, rfl, HH.out.keep HT.out.be⟩ HOK.out
  rw [← HR.out.1, ← HR.out.2.1, ← HR.out.2.2] at hcc
  refine hcc.mono ?_
  clear hcc
  rintro e w2 ⟨⟨v2, rfl, B0, B1, B2, k0, k1, k2, hv2, hr2⟩, hb2⟩
  subst hv2
  have hT2 := HT.out.keep hb2
  obtain ⟨m1, m2, m3⟩ := box_new hT2 hr2 (.slice B0 y.gens.length k0) (.slice B1 y.counts.length k1) (.slice B2 y.free.length k2) (.int .u64 y.last)
  have z2 := hT2.sz
  have hN : (w2.alloc (.cells #[.slice B0 y.gens.length k0, .slice B1 y.counts.length k1, .slice B2 y.free.length k2, .int .u64 y.last] 30)).heap.size = w2.heap.size + 1 := by simp
  have m4 := Blk.new (w2.alloc (.cells #[.slice B0 y.gens.length k0, .slice B1 y.counts.length k1, .slice B2 y.free.length k2, .int .u64 y.last] 30)) 34 #[.int .i64 r0.1, .int .u64 r0.2]
  rw [hN] at m4
  have m1' := m1.alloc (.cells #[.int .i64 r0.1, .int .u64 r0.2] 34)
  have m2' := m2.keep ((Below.refl _ _).alloc (Nat.le_refl _) (.cells #[.int .i64 r0.1, .int .u64 r0.2] 34))
  have m3' := m3.alloc (.cells #[.int .i64 r0.1, .int .u64 r0.2] 34)
  have M1 := Lib.hid m1'
  have M2 := Lib.hid m2'
  have M3 := Lib.hid m3'
  have M4 := Lib.hid m4
  clear hT2 hr2 hb2 m1 m2 m3 hN m4 m1' m2' m3'
  go_wp2_with fail
  generalize (w2.alloc (.cells #[.slice B0 y.gens.length k0, .slice B1 y.counts.length k1, .slice B2 y.free.length k2, .int .u64 y.last] 30)).alloc (.cells #[.int .i64 r0.1, .int .u64 r0.2] 34) = W9 at M1 M2 M3 M4 ⊢
  have d0 := M3.out.cell 0
  have d1 := M3.out.cell 1
  have d2 := M3.out.cell 2
  have d3 := M3.out.cell 3
  have e0 := M4.out.cell 0
  have e1 := M4.out.cell 1
  have t0 := M1.out.b2.cell 0
  have t1 := M1.out.b2.cell 1
  have t2 := M1.out.b2.cell 2
  have t3 := M1.out.b2.cell 3
  have s0 := M1.out.b3.cell 0
  have s1 := M1.out.b3.cell 1
  have ft := M1.out.b2.frozen
  have fs := M1.out.b3.frozen
  simp only [List.getElem?_toArray, List.getElem?_cons_zero, List.getElem?_cons_succ] at d0 d1 d2 d3 t0 t1 t2 t3 s0 s1 e0 e1
  have x1 : ¬ w2.heap.size = w.heap.size + 1 + 1 := by omega
  have x2 : ¬ w2.heap.size = w.heap.size + 1 + 1 + 1 := by omega
  have x3 : ¬ w2.heap.size + 1 = w.heap.size + 1 + 1 := by omega
  have x4 : ¬ w2.heap.size + 1 = w.heap.size + 1 + 1 + 1 := by omega
  have x1' : ¬ w.heap.size + 1 + 1 = w2.heap.size := by omega
  have x2' : ¬ w.heap.size + 1 + 1 + 1 = w2.heap.size := by omega
  have x3' : ¬ w.heap.size + 1 + 1 = w2.heap.size + 1 := by omega
  have x4' : ¬ w.heap.size + 1 + 1 + 1 = w2.heap.size + 1 := by omega
  have x5 : ¬ w.heap.size + 1 + 1 = w.heap.size + 1 + 1 + 1 := by omega
  have x6 : ¬ w.heap.size + 1 + 1 + 1 = w.heap.size + 1 + 1 := by omega
  generalize w2.heap.size = gx at x1 x2 x3 x4 x1' x2' x3' x4' d0 d1 d2 d3 e0 e1 M3 M4 ⊢
  obtain ⟨kk, kk2, kb, kh⟩ := M1.out.result (.slice B0 y.gens.length k0) (.slice B1 y.counts.length k1) (.slice B2 y.free.length k2) (.int .u64 y.last) (.int .i64 r0.1) (.int .u64 r0.2)
  have hb3 := do_b3 M1.out (.slice B0 y.gens.length k0) (.slice B1 y.counts.length k1) (.slice B2 y.free.length k2) (.int .u64 y.last) (.int .i64 r0.1)
  have hrr : RfV _ B0 B1 B2 k0 k1 k2 y := (((((M2.out.farT M1.out.b2 0 (.slice B0 y.gens.length k0)).farT (M1.out.b2.set_ 0 (.slice B0 y.gens.length k0)) 1 (.slice B1 y.counts.length k1)).farT ((M1.out.b2.set_ 0 (.slice B0 y.gens.length k0)).set_ 1 (.slice B1 y.counts.length k1)) 2 (.slice B2 y.free.length k2)).farT (((M1.out.b2.set_ 0 (.slice B0 y.gens.length k0)).set_ 1 (.slice B1 y.counts.length k1)).set_ 2 (.slice B2 y.free.length k2)) 3 (.int .u64 y.last)))
  have hrr2 := (hrr.farH hb3.1 0 (.int .i64 r0.1)).farH hb3.2 1 (.int .u64 r0.2)
  have K1 := Lib.hid kk
  have K2 := Lib.hid kk2
  have K3 := Lib.hid kb
  have HRR := Lib.hid hrr2
  clear kk kk2 kb kh hb3 hrr hrr2 z2
  go_region
  all_goals (
    go_wp2
    refine bodyPost_ret (results_cell2_tmp2 rfl _ _ (w.heap.size + 1 + 1) (w.heap.size + 1 + 1 + 1) _ _ _ _ (0, 0) (0, 0) _ _ rfl (Blk.drew K1.out) Tryd.underlying30 rfl (by kernel_rfl) rfl (Blk.drew K2.out) Tryd.underlying34 rfl (by kernel_rfl)) rfl ?_
    exact ⟨⟨_, rfl, B0, B1, B2, k0, k1, k2, rfl, HRR.out.keep ((Below.refl _ _).drew)⟩, K3.out.drew⟩)

/-- Do, whatever the act. -/
theorem ref_do {w : World} {v : Value} {x : Rf} (h : RfAt w v x) (hok : RfOk x) (k c d : Int) (hk : 0 ≤ k ∧ k ≤ 255) (hc : 0 ≤ c ∧ c ≤ 255) (hd : 0 ≤ d ∧ d ≤ 255) :
    Calls Tryd.prog 23 #[v, .agg #[.int .u8 k, .int .u8 c, .int .u8 d]] w fun e w' =>
      (∃ v', e = .returned (.tuple #[v', .agg #[.int .i64 (x.act (k % 4) (handleOf c d)).2.1.1, .int .u64 (x.act (k % 4) (handleOf c d)).2.1.2], .int .i64 (x.act (k % 4) (handleOf c d)).2.2.1, .int .i64 (x.act (k % 4) (handleOf c d)).2.2.2]) ∧ RfAt w' v' (x.act (k % 4) (handleOf c d)).1) ∧ Below w.heap.size w w' := by
  have h4 : k % 4 = 0 ∨ k % 4 = 1 ∨ k % 4 = 2 ∨ k % 4 = 3 := by omega
  rcases h4 with h4 | h4 | h4 | h4
  · have := ref_do_take h hok k c d hk h4
    rw [h4]; unfold Rf.act; rw [if_pos rfl]; exact this
  · have := ref_do_add h hok k c d hk hc hd h4
    rw [h4]; unfold Rf.act; rw [if_neg (by decide), if_pos rfl]; exact this
  · have := ref_do_drop h hok k c d hk hc hd h4
    rw [h4]; unfold Rf.act; rw [if_neg (by decide), if_neg (by decide), if_pos rfl]; exact this
  · have := ref_do_count h hok k c d hk hc hd h4
    rw [h4]; unfold Rf.act; rw [if_neg (by decide), if_neg (by decide), if_neg (by decide)]; exact this
theorem Slots.Sim.rfok {s : St} {x : Rf} (h : Sim s x) {K : Int} (hs : Small K s) (h0 : 0 ≤ K) (hK : K ≤ 900000) (hl : s.sl.length ≤ 5000) : RfOk x := by
  have hfree : x.free.length ≤ s.sl.length := nodup_le h.nodup h.range
  have h1 := h.lg
  have h2 := h.lc
  exact ⟨by omega, fun i => by have := h.count_bound hs h0 i; omega, by omega, fun n hn => by have := h.range n hn; omega⟩
/-- An act, of both: the same is told. -/
theorem both_act {s : St} {x : Rf} (h : Sim s x) (kd : Int) (a : Int × Int) : ∃ s' x' p m o, s.act kd a = (s', p, m, o) ∧ x.act kd a = (x', p, m, o.getD 0) ∧ Sim s' x' := by
  obtain ⟨h1, h2, h3, h4⟩ := sim_act h kd a
  refine ⟨(s.act kd a).1, (x.act kd a).1, (s.act kd a).2.1, (s.act kd a).2.2.1, (s.act kd a).2.2.2, rfl, ?_, h4⟩
  rw [h1, h2, h3]
end Go.Proofs.YtkmmnmicmjohgaaDoor
