/- The reference's Add and Drop. The reference's Drop of a live handle. -/
import Derived.Test.YtkmmnmicmjohgaaDoorSlotsRef3
set_option linter.unusedVariables false
set_option linter.unusedSimpArgs false
namespace Go.Proofs.YtkmmnmicmjohgaaDoor
open Go.RowKit Slots

/-- What stands while Add and Drop go: the struct's box, the handle's, and the result's. -/
structure AddSt (w0 w : World) (ca cb cc : Array Value) : Prop where
  b0 : Blk w w0.heap.size 30 ca
  b1 : Blk w (w0.heap.size + 1) 34 cb
  b2 : Blk w (w0.heap.size + 1 + 1) 30 cc
  be : Below w0.heap.size w0 w
  sz : w0.heap.size + 3 ≤ w.heap.size
section
variable {w0 w w' : World} {ca cb cc : Array Value}
theorem AddSt.alloc (h : AddSt w0 w ca cb cc) (o : Obj) : AddSt w0 (w.alloc o) ca cb cc := ⟨h.b0.alloc o, h.b1.alloc o, h.b2.alloc o, h.be.alloc (by have := h.sz; omega) o, by have := h.sz; simp; omega⟩
theorem AddSt.drew (h : AddSt w0 w ca cb cc) : AddSt w0 w.drew ca cb cc := ⟨h.b0, h.b1, h.b2, h.be.drew, h.sz⟩
theorem AddSt.drewN (h : AddSt w0 w ca cb cc) (n : Nat) : AddSt w0 (w.drewN n) ca cb cc := ⟨h.b0, h.b1, h.b2, h.be.drewN n, h.sz⟩
theorem AddSt.keep (h : AddSt w0 w ca cb cc) (hb : Below w.heap.size w w') : AddSt w0 w' ca cb cc := ⟨h.b0.keep hb, h.b1.keep hb, h.b2.keep hb, belowOn h.be (by have := h.sz; omega) hb, by have := h.sz; have := hb.size; omega⟩
theorem AddSt.far (h : AddSt w0 w ca cb cc) {p : Addr} (hp : w0.heap.size + 3 ≤ p.block) (u : Value) : AddSt w0 (w.setCell p u) ca cb cc :=
  ⟨h.b0.far (by omega) u, h.b1.far (by omega) u, h.b2.far (by omega) u, h.be.setCell (by omega) u, by have := h.sz; simpa [World.setCell] using this⟩
end
theorem add_blocks (w : World) (ca cb cc : Array Value) : AddSt w (((w.alloc (.cells ca 30)).alloc (.cells cb 34)).alloc (.cells cc 30)) ca cb cc := by
  refine ⟨((Blk.new w _ _).alloc _).alloc _, ?_, ?_, (((Below.refl _ _).alloc (Nat.le_refl _) _).alloc (by simp) _).alloc (by simp; omega) _, by simp⟩
  · have := (Blk.new (w.alloc (.cells ca 30)) 34 cb).alloc (.cells cc 30)
    simpa using this
  · have := (Blk.new ((w.alloc (.cells ca 30)).alloc (.cells cb 34)) 30 cc)
    simpa using this
/-- The result's four cells written. -/
theorem AddSt.result {w0 w : World} {ca cb : Array Value} {u0 u1 u2 u3 : Value} (h : AddSt w0 w ca cb #[u0, u1, u2, u3]) (v0 v1 v2 v3 : Value) :
    Blk ((((w.setCell ⟨w0.heap.size + 1 + 1, 0, none⟩ v0).setCell ⟨w0.heap.size + 1 + 1, 1, none⟩ v1).setCell ⟨w0.heap.size + 1 + 1, 2, none⟩ v2).setCell ⟨w0.heap.size + 1 + 1, 3, none⟩ v3) (w0.heap.size + 1 + 1) 30 #[v0, v1, v2, v3] ∧
    Below w0.heap.size w0 ((((w.setCell ⟨w0.heap.size + 1 + 1, 0, none⟩ v0).setCell ⟨w0.heap.size + 1 + 1, 1, none⟩ v1).setCell ⟨w0.heap.size + 1 + 1, 2, none⟩ v2).setCell ⟨w0.heap.size + 1 + 1, 3, none⟩ v3) ∧
    ∀ g, g ≠ w0.heap.size + 1 + 1 → ((((w.setCell ⟨w0.heap.size + 1 + 1, 0, none⟩ v0).setCell ⟨w0.heap.size + 1 + 1, 1, none⟩ v1).setCell ⟨w0.heap.size + 1 + 1, 2, none⟩ v2).setCell ⟨w0.heap.size + 1 + 1, 3, none⟩ v3).heap[g]? = w.heap[g]? :=
  ⟨(((h.b2.set_ 0 v0).set_ 1 v1).set_ 2 v2).set_ 3 v3, (((h.be.setCell (p := ⟨w0.heap.size + 1 + 1, 0, none⟩) (by simp; omega) v0).setCell (p := ⟨w0.heap.size + 1 + 1, 1, none⟩) (by simp; omega) v1).setCell (p := ⟨w0.heap.size + 1 + 1, 2, none⟩) (by simp; omega) v2).setCell (p := ⟨w0.heap.size + 1 + 1, 3, none⟩) (by simp; omega) v3,
    fun g hg => by rw [Below.heap_setCell _ _ _ _ hg, Below.heap_setCell _ _ _ _ hg, Below.heap_setCell _ _ _ _ hg, Below.heap_setCell _ _ _ _ hg]⟩
/-- Rows that lie elsewhere read on. -/
theorem RfV.of_same {w w' : World} {A0 A1 A2 : Option Addr} {c0 c1 c2 : Nat} {x : Rf} (h : RfV w A0 A1 A2 c0 c1 c2 x) (hw : ∀ b off, (A0 = some ⟨b, off, none⟩ ∨ A1 = some ⟨b, off, none⟩ ∨ A2 = some ⟨b, off, none⟩) → w'.heap[b]? = w.heap[b]?) : RfV w' A0 A1 A2 c0 c1 c2 x :=
  ⟨h.g.of_same (fun b off e => hw b off (.inl e)), h.c.of_same (fun b off e => hw b off (.inr (.inl e))), h.f.of_same (fun b off e => hw b off (.inr (.inr e))), h.cg, h.cc, h.cf, h.lg, h.lc, h.lf⟩

set_option maxHeartbeats 4000000 in
theorem ref_add {w : World} {v : Value} {x : Rf} (h : RfAt w v x) (hl : x.counts.length = x.gens.length) (a : Int × Int) (hcnt : -1000000 ≤ x.count a.1 ∧ x.count a.1 ≤ 1000000) :
    Calls Tryd.prog 34 #[v, .agg #[.int .i64 a.1, .int .u64 a.2]] w fun e w' => (∃ v', e = .returned (.tuple #[v', .int .i64 (if x.live a then 0 else 7)]) ∧ RfAt w' v' (x.add a).1) ∧ Below w.heap.size w w' := by
  obtain ⟨A0, A1, A2, c0, c1, c2, rfl, h⟩ := h
  have hT := add_blocks w #[.slice A0 x.gens.length c0, .slice A1 x.counts.length c1, .slice A2 x.free.length c2, .int .u64 x.last] #[.int .i64 a.1, .int .u64 a.2] #[.slice none 0 0, .slice none 0 0, .slice none 0 0, .int .u64 0]
  by_cases hv : x.live a
  · have hadd : (x.add a).1 = x.with_ a.1 a.2 (x.count a.1 + 1) := by unfold Rf.add; rw [if_pos hv]
    have hlv : decide (x.live a) = true := by simpa using hv
    rw [hadd, if_pos hv]
    obtain ⟨i, gen⟩ := a
    obtain ⟨h0, h1, h2, h3⟩ := hv
    simp only at h0 h1 h2 h3 hcnt hlv hT ⊢
    obtain ⟨n, rfl⟩ := Int.eq_ofNat_of_zero_le h0
    have hn : n < x.gens.length := by omega
    have hn' : n < x.counts.length := by omega
    obtain ⟨bc, oc, rfl, hbc, hcc⟩ := h.c.at_ (show x.counts[n]? = some (x.count n) by unfold Rf.count; rw [Int.toNat_natCast, List.getElem?_eq_getElem hn']; rfl)
    have HH := Lib.hid h
    have HT := Lib.hid hT
    have HL := Lib.hid hl
    have HLV := Lib.hid hlv
    have hnI : (n : Int) < (x.counts.length : Int) := by omega
    clear h hT hl hlv hadd h0 h1 h2 h3
    go_enter Tryd.func34, Tryd.ntmps34
    go_wp2_with fail
    generalize (((w.alloc (.cells #[.slice A0 x.gens.length c0, .slice (some ⟨bc, oc, none⟩) x.counts.length c1, .slice A2 x.free.length c2, .int .u64 x.last] 30)).alloc (.cells #[.int .i64 n, .int .u64 gen] 34)).alloc (.cells #[.slice none 0 0, .slice none 0 0, .slice none 0 0, .int .u64 0] 30)) = W at HT ⊢
    refine (ref_live (x := x) ⟨A0, _, A2, c0, c1, c2, rfl, HH.out.keep HT.out.be⟩ HL.out ((n : Int), gen)).mono ?_
    rintro e w1 ⟨rfl, hb1⟩
    rw [HLV.out]
    have hT1 := HT.out.keep hb1
    have p0 := hT1.b0.cell 0
    have p1 := hT1.b0.cell 1
    have p2 := hT1.b0.cell 2
    have p3 := hT1.b0.cell 3
    have q0 := hT1.b1.cell 0
    have q1 := hT1.b1.cell 1
    simp only [List.getElem?_toArray, List.getElem?_cons_zero, List.getElem?_cons_succ] at p0 p1 p2 p3 q0 q1
    have pc := (hT1.be.cell (p := ⟨bc, oc + n, none⟩) hbc).trans hcc
    have HCC := Lib.hid hcc
    have HT1 := Lib.hid hT1
    clear hT1 hb1 hcc HT
    go_wp2_with fail
    have y0 : ¬ w.heap.size = w.heap.size + 1 + 1 := by omega
    have y1 : ¬ bc = w.heap.size + 1 + 1 := by omega
    have y2 : ¬ w.heap.size + 1 + 1 = w.heap.size := by omega
    have y3 : ¬ w.heap.size + 1 + 1 = bc := by omega
    go_region_held3 (fun w' => w'.cell? ⟨w.heap.size, 0, none⟩ = some (.slice A0 x.gens.length c0) ∧ w'.cell? ⟨w.heap.size, 1, none⟩ = some (.slice (some ⟨bc, oc, none⟩) x.counts.length c1) ∧ w'.cell? ⟨w.heap.size, 2, none⟩ = some (.slice A2 x.free.length c2) ∧ w'.cell? ⟨w.heap.size, 3, none⟩ = some (.int .u64 x.last) ∧ w'.cell? ⟨w.heap.size + 1, 0, none⟩ = some (.int .i64 n) ∧ w'.cell? ⟨w.heap.size + 1, 1, none⟩ = some (.int .u64 gen) ∧ w'.cell? ⟨bc, oc + n, none⟩ = some (.int .i64 (x.count n)))
      (first | exact ⟨p0, p1, p2, p3, q0, q1, pc⟩ | exact ⟨p05, p15, p25, p35, q05, q15, pc5⟩ | go_keep)
      (first
        | (go_at_call 41; refine (ref_with (HH.out.keep HT1.out.drew.be) n hn hn' gen _).mono ?_; rintro e w5 ⟨⟨B0, B1, k0, k1, rfl, hr5, hq0, hq1⟩, hb5⟩; have hT5 := HT1.out.drew.keep hb5; have p05 := hT5.b0.cell 0; have p15 := hT5.b0.cell 1; have p25 := hT5.b0.cell 2; have p35 := hT5.b0.cell 3; have q05 := hT5.b1.cell 0; have q15 := hT5.b1.cell 1; have t0 := hT5.b2.cell 0; have t1 := hT5.b2.cell 1; have t2 := hT5.b2.cell 2; have t3 := hT5.b2.cell 3; have ft := hT5.b2.frozen; simp only [List.getElem?_toArray, List.getElem?_cons_zero, List.getElem?_cons_succ] at p05 p15 p25 p35 q05 q15 t0 t1 t2 t3; have pc5 := (hT5.be.cell (p := ⟨bc, oc + n, none⟩) hbc).trans HCC.out; have z5 := hT5.sz; have HT5 := Lib.hid hT5; have HR5 := Lib.hid hr5; have HQ := Lib.hid (And.intro hq0 hq1); clear hT5 hr5 hb5 hq0 hq1))
    go_wp2
    obtain ⟨kk, kb, kh⟩ := HT5.out.result (.slice B0 x.gens.length k0) (.slice B1 x.counts.length k1) (.slice A2 x.free.length c2) (.int .u64 x.last)
    refine bodyPost_ret (results_cell_row2 rfl _ _ (w.heap.size + 1 + 1) 30 _ (0, 0) _ rfl kk Tryd.underlying30 rfl (by kernel_rfl)) rfl ?_
    have hw1 := HT1.out.sz
    have hwr : IntKind.i64.wrap (x.count n + 1) = x.count n + 1 := by rw [IntKind.wrap_i64]; omega
    have HR6 := HR5.out
    rw [hwr] at HR6
    clear HR5
    have HR5 := Lib.hid HR6
    refine ⟨⟨_, rfl, B0, B1, A2, k0, k1, c2, ?_, ?_⟩, kb⟩
    · simp only [Rf.with_, List.length_set]
    · have hf : RowI .i64 3 _ A2 x.free := HH.out.f.keepB kb
      exact ⟨HR5.out.g.of_same (fun b off e => kh b (by have := HQ.out.1 b off e; simp at this; omega)), HR5.out.c.of_same (fun b off e => kh b (by have := HQ.out.2 b off e; simp at this; omega)), hf, HR5.out.cg, HR5.out.cc, HR5.out.cf, HR5.out.lg, HR5.out.lc, HR5.out.lf⟩
  · have hadd : (x.add a).1 = x := by unfold Rf.add; rw [if_neg hv]
    have hlv : decide (x.live a) = false := by simpa using hv
    rw [hadd, if_neg hv]
    have HH := Lib.hid h
    have HT := Lib.hid hT
    have HL := Lib.hid hl
    have HLV := Lib.hid hlv
    clear h hT hl hlv hadd hv
    go_enter Tryd.func34, Tryd.ntmps34
    go_wp2_with fail
    generalize (((w.alloc (.cells #[.slice A0 x.gens.length c0, .slice A1 x.counts.length c1, .slice A2 x.free.length c2, .int .u64 x.last] 30)).alloc (.cells #[.int .i64 a.1, .int .u64 a.2] 34)).alloc (.cells #[.slice none 0 0, .slice none 0 0, .slice none 0 0, .int .u64 0] 30)) = W at HT ⊢
    refine (ref_live (x := x) ⟨A0, A1, A2, c0, c1, c2, rfl, HH.out.keep HT.out.be⟩ HL.out a).mono ?_
    rintro e w1 ⟨rfl, hb1⟩
    rw [HLV.out]
    have hT1 := HT.out.keep hb1
    have p0 := hT1.b0.cell 0
    have p1 := hT1.b0.cell 1
    have p2 := hT1.b0.cell 2
    have p3 := hT1.b0.cell 3
    have t0 := hT1.b2.cell 0
    have t1 := hT1.b2.cell 1
    have t2 := hT1.b2.cell 2
    have t3 := hT1.b2.cell 3
    have ft := hT1.b2.frozen
    simp only [List.getElem?_toArray, List.getElem?_cons_zero, List.getElem?_cons_succ] at p0 p1 p2 p3 t0 t1 t2 t3
    have HT1 := Lib.hid hT1
    clear hT1 hb1 HT
    go_wp2
    obtain ⟨kk, kb, kh⟩ := HT1.out.result (.slice A0 x.gens.length c0) (.slice A1 x.counts.length c1) (.slice A2 x.free.length c2) (.int .u64 x.last)
    refine bodyPost_ret (results_cell_row2 rfl _ _ (w.heap.size + 1 + 1) 30 _ (0, 0) _ rfl kk Tryd.underlying30 rfl (by kernel_rfl)) rfl ?_
    exact ⟨⟨_, rfl, A0, A1, A2, c0, c1, c2, rfl, HH.out.keep kb⟩, kb⟩

theorem OwnI.one (w : World) (B : Nat) (e : TypeId) (k : IntKind) (y : Int) (hB : B ≤ w.heap.size) : OwnI (w.alloc (.cells #[.int k y] e)) B e k (.slice (some ⟨w.heap.size, 0, none⟩) 1 1) [y] := by
  have h := World.ownsRow_lit (base := B) (e := e) (size := 1) w #[.int k y] 1 hB (by decide) rfl
  exact h

set_option maxHeartbeats 4000000 in
theorem ref_drop_stale {w : World} {v : Value} {x : Rf} (h : RfAt w v x) (hl : x.counts.length = x.gens.length) (a : Int × Int) (hv : ¬ x.live a) :
    Calls Tryd.prog 35 #[v, .agg #[.int .i64 a.1, .int .u64 a.2]] w fun e w' => (∃ v', e = .returned (.tuple #[v', .int .i64 0, .int .i64 7]) ∧ RfAt w' v' x) ∧ Below w.heap.size w w' := by
  obtain ⟨A0, A1, A2, c0, c1, c2, rfl, h⟩ := h
  have hT := add_blocks w #[.slice A0 x.gens.length c0, .slice A1 x.counts.length c1, .slice A2 x.free.length c2, .int .u64 x.last] #[.int .i64 a.1, .int .u64 a.2] #[.slice none 0 0, .slice none 0 0, .slice none 0 0, .int .u64 0]
  have hlv : decide (x.live a) = false := by simpa using hv
  have HH := Lib.hid h
  have HT := Lib.hid hT
  have HL := Lib.hid hl
  have HLV := Lib.hid hlv
  clear h hT hl hlv hv
  go_enter Tryd.func35, Tryd.ntmps35
  go_wp2_with fail
  generalize (((w.alloc (.cells #[.slice A0 x.gens.length c0, .slice A1 x.counts.length c1, .slice A2 x.free.length c2, .int .u64 x.last] 30)).alloc (.cells #[.int .i64 a.1, .int .u64 a.2] 34)).alloc (.cells #[.slice none 0 0, .slice none 0 0, .slice none 0 0, .int .u64 0] 30)) = W at HT ⊢
  refine (ref_live (x := x) ⟨A0, A1, A2, c0, c1, c2, rfl, HH.out.keep HT.out.be⟩ HL.out a).mono ?_
  rintro e w1 ⟨rfl, hb1⟩
  rw [HLV.out]
  have hT1 := HT.out.keep hb1
  have p0 := hT1.b0.cell 0
  have p1 := hT1.b0.cell 1
  have p2 := hT1.b0.cell 2
  have p3 := hT1.b0.cell 3
  have t0 := hT1.b2.cell 0
  have t1 := hT1.b2.cell 1
  have t2 := hT1.b2.cell 2
  have t3 := hT1.b2.cell 3
  have ft := hT1.b2.frozen
  simp only [List.getElem?_toArray, List.getElem?_cons_zero, List.getElem?_cons_succ] at p0 p1 p2 p3 t0 t1 t2 t3
  have HT1 := Lib.hid hT1
  clear hT1 hb1 HT
  go_wp2
  obtain ⟨kk, kb, kh⟩ := HT1.out.result (.slice A0 x.gens.length c0) (.slice A1 x.counts.length c1) (.slice A2 x.free.length c2) (.int .u64 x.last)
  refine bodyPost_ret (results_cell_row3 rfl _ _ (w.heap.size + 1 + 1) 30 _ (0, 0) _ rfl kk Tryd.underlying30 rfl (by kernel_rfl)) rfl ?_
  exact ⟨⟨_, rfl, A0, A1, A2, c0, c1, c2, rfl, HH.out.keep kb⟩, kb⟩
end Go.Proofs.YtkmmnmicmjohgaaDoor

namespace Go.Proofs.YtkmmnmicmjohgaaDoor
open Go.RowKit Slots

set_option maxHeartbeats 8000000 in
theorem ref_drop_live {w : World} {v : Value} {x : Rf} (h : RfAt w v x) (hl : x.counts.length = x.gens.length) (n : Nat) (gen : Int) (hv : x.live ((n : Int), gen)) (hcnt : x.count n ≤ 1000000) (hgen : 0 ≤ gen ∧ gen ≤ 1000000) (hfr : x.free.length < 10000) :
    Calls Tryd.prog 35 #[v, .agg #[.int .i64 n, .int .u64 gen]] w fun e w' => (∃ v', e = .returned (.tuple #[v', .int .i64 (x.count n - 1), .int .i64 0]) ∧ RfAt w' v' (x.drop ((n : Int), gen)).1) ∧ Below w.heap.size w w' := by
  obtain ⟨A0, A1, A2, c0, c1, c2, rfl, h⟩ := h
  have hT := add_blocks w #[.slice A0 x.gens.length c0, .slice A1 x.counts.length c1, .slice A2 x.free.length c2, .int .u64 x.last] #[.int .i64 n, .int .u64 gen] #[.slice none 0 0, .slice none 0 0, .slice none 0 0, .int .u64 0]
  have hlv : decide (x.live ((n : Int), gen)) = true := by simpa using hv
  have hv' := hv
  obtain ⟨h0, h1, h2, h3⟩ := hv'
  simp only at h0 h1 h2 h3
  have hn : n < x.gens.length := by omega
  have hn' : n < x.counts.length := by omega
  obtain ⟨bc, oc, rfl, hbc, hcc⟩ := h.c.at_ (show x.counts[n]? = some (x.count n) by unfold Rf.count; rw [Int.toNat_natCast, List.getElem?_eq_getElem hn']; rfl)
  have HH := Lib.hid h
  have HT := Lib.hid hT
  have HL := Lib.hid hl
  have HLV := Lib.hid hlv
  have HV := Lib.hid hv
  have hnI : (n : Int) < (x.counts.length : Int) := by omega
  have hwr : IntKind.i64.wrap (x.count n - 1) = x.count n - 1 := by rw [IntKind.wrap_i64]; omega
  have HW := Lib.hid hwr
  clear h hT hl hlv h0 h1 h3 hv hwr
  by_cases hpos : x.count n - 1 > 0
  · have hdrop : (x.drop ((n : Int), gen)).1 = x.with_ n gen (x.count n - 1) := by unfold Rf.drop; rw [if_pos HV.out, if_pos hpos]
    rw [hdrop]
    clear hdrop
    go_enter Tryd.func35, Tryd.ntmps35
    go_wp2_with fail
    generalize (((w.alloc (.cells #[.slice A0 x.gens.length c0, .slice (some ⟨bc, oc, none⟩) x.counts.length c1, .slice A2 x.free.length c2, .int .u64 x.last] 30)).alloc (.cells #[.int .i64 n, .int .u64 gen] 34)).alloc (.cells #[.slice none 0 0, .slice none 0 0, .slice none 0 0, .int .u64 0] 30)) = W at HT ⊢
    refine (ref_live (x := x) ⟨A0, _, A2, c0, c1, c2, rfl, HH.out.keep HT.out.be⟩ HL.out ((n : Int), gen)).mono ?_
    rintro e w1 ⟨rfl, hb1⟩
    rw [HLV.out]
    have hT1 := HT.out.keep hb1
    have p0 := hT1.b0.cell 0
    have p1 := hT1.b0.cell 1
    have p2 := hT1.b0.cell 2
    have p3 := hT1.b0.cell 3
    have q0 := hT1.b1.cell 0
    have q1 := hT1.b1.cell 1
    simp only [List.getElem?_toArray, List.getElem?_cons_zero, List.getElem?_cons_succ] at p0 p1 p2 p3 q0 q1
    have pc := (hT1.be.cell (p := ⟨bc, oc + n, none⟩) hbc).trans hcc
    have HCC := Lib.hid hcc
    have HT1 := Lib.hid hT1
    clear hT1 hb1 hcc HT
    go_wp2_with fail
    refine (ref_with (HH.out.keep HT1.out.be) n hn hn' gen _).mono ?_
    rintro e w5 ⟨⟨B0, B1, k0, k1, rfl, hr5, hq0, hq1⟩, hb5⟩
    have hT5 := HT1.out.keep hb5
    have t0 := hT5.b2.cell 0
    have t1 := hT5.b2.cell 1
    have t2 := hT5.b2.cell 2
    have t3 := hT5.b2.cell 3
    have ft := hT5.b2.frozen
    simp only [List.getElem?_toArray, List.getElem?_cons_zero, List.getElem?_cons_succ] at t0 t1 t2 t3
    have HT5 := Lib.hid hT5
    have HR5 := Lib.hid hr5
    have HQ := Lib.hid (And.intro hq0 hq1)
    clear hT5 hr5 hb5 hq0 hq1
    go_wp2
    obtain ⟨kk, kb, kh⟩ := HT5.out.result (.slice B0 x.gens.length k0) (.slice B1 x.counts.length k1) (.slice A2 x.free.length c2) (.int .u64 x.last)
    refine bodyPost_ret (results_cell_row3 rfl _ _ (w.heap.size + 1 + 1) 30 _ (0, 0) _ rfl kk Tryd.underlying30 rfl (by kernel_rfl)) rfl ?_
    have hw1 := HT1.out.sz
    refine ⟨⟨_, by first | rfl | (rw [← HW.out]; rfl), B0, B1, A2, k0, k1, c2, ?_, ?_⟩, kb⟩
    · simp only [Rf.with_, List.length_set]
    · have hf : RowI .i64 3 _ A2 x.free := HH.out.f.keepB kb
      exact ⟨HR5.out.g.of_same (fun b off e => kh b (by have := HQ.out.1 b off e; (try simp at this); omega)), HR5.out.c.of_same (fun b off e => kh b (by have := HQ.out.2 b off e; (try simp at this); omega)), hf, HR5.out.cg, HR5.out.cc, HR5.out.cf, HR5.out.lg, HR5.out.lc, HR5.out.lf⟩
  · have hc1 : x.count n = 1 := by omega
    have hpos0 : (x.count n - 1 > 0) = False := by simp; omega
    have hcz : x.count n - 1 = 0 := by omega
    rw [hcz]
    have HC1 := Lib.hid hc1
    rw [hc1] at hcc
    by_cases hlast : gen < x.last
    · have hdrop : (x.drop ((n : Int), gen)).1 = { x.with_ n (gen + 1) 0 with free := (n : Int) :: x.free } := by unfold Rf.drop; rw [if_pos HV.out, if_neg (by rw [HC1.out]; decide), if_pos hlast]
      rw [hdrop]
      clear hdrop hpos0 hcz hc1 hpos h2
      go_enter Tryd.func35, Tryd.ntmps35
      go_wp2_with fail
      generalize (((w.alloc (.cells #[.slice A0 x.gens.length c0, .slice (some ⟨bc, oc, none⟩) x.counts.length c1, .slice A2 x.free.length c2, .int .u64 x.last] 30)).alloc (.cells #[.int .i64 n, .int .u64 gen] 34)).alloc (.cells #[.slice none 0 0, .slice none 0 0, .slice none 0 0, .int .u64 0] 30)) = W at HT ⊢
      refine (ref_live (x := x) ⟨A0, _, A2, c0, c1, c2, rfl, HH.out.keep HT.out.be⟩ HL.out ((n : Int), gen)).mono ?_
      rintro e w1 ⟨rfl, hb1⟩
      rw [HLV.out]
      have hT1 := HT.out.keep hb1
      have p0 := hT1.b0.cell 0
      have p1 := hT1.b0.cell 1
      have p2 := hT1.b0.cell 2
      have p3 := hT1.b0.cell 3
      have q0 := hT1.b1.cell 0
      have q1 := hT1.b1.cell 1
      simp only [List.getElem?_toArray, List.getElem?_cons_zero, List.getElem?_cons_succ] at p0 p1 p2 p3 q0 q1
      have pc := (hT1.be.cell (p := ⟨bc, oc + n, none⟩) hbc).trans hcc
      have HT1 := Lib.hid hT1
      clear hT1 hb1 hcc HT
      have hg1 : (0 : Int) ≤ gen := hgen.1
      have hg2 : gen ≤ 1000000 := hgen.2
      go_wp2_with fail
      refine (ref_with (HH.out.keep HT1.out.be) n hn hn' (gen + 1) 0).mono ?_
      rintro e w5 ⟨⟨B0, B1, k0, k1, rfl, hr5, hq0, hq1⟩, hb5⟩
      have hT5 := HT1.out.keep hb5
      have hT6 := hT5.alloc (.cells #[.slice B0 x.gens.length k0, .slice B1 x.counts.length k1, .slice A2 x.free.length c2, .int .u64 x.last] 30)
      have hG6 := Blk.new w5 30 #[.slice B0 x.gens.length k0, .slice B1 x.counts.length k1, .slice A2 x.free.length c2, .int .u64 x.last]
      have hr6 := hr5.keep ((Below.refl w5.heap.size w5).alloc (Nat.le_refl _) (.cells #[.slice B0 x.gens.length k0, .slice B1 x.counts.length k1, .slice A2 x.free.length c2, .int .u64 x.last] 30))
      have hz6 : (w5.alloc (.cells #[.slice B0 x.gens.length k0, .slice B1 x.counts.length k1, .slice A2 x.free.length c2, .int .u64 x.last] 30)).heap.size = w5.heap.size + 1 := by simp
      have s0 := hT5.b0.cell 2
      have s3 := hT5.b0.cell 3
      have u0 := hT5.b1.cell 0
      have u1 := hT5.b1.cell 1
      simp only [List.getElem?_toArray, List.getElem?_cons_zero, List.getElem?_cons_succ] at s0 s3 u0 u1
      have z5 := hT5.sz
      have hb9 : ∀ b off, (B0 = some ⟨b, off, none⟩ ∨ B1 = some ⟨b, off, none⟩) → b < w5.heap.size := by
        have hn0 : (x.with_ n (gen + 1) 0).gens ≠ [] := fun e => by have h3 := congrArg List.length e; simp only [Rf.with_, List.length_set, List.length_nil] at h3; omega
        have hn1 : (x.with_ n (gen + 1) 0).counts ≠ [] := fun e => by have h3 := congrArg List.length e; simp only [Rf.with_, List.length_set, List.length_nil] at h3; omega
        rintro b off (e | e)
        · rcases hr5.g.lt' with h | h
          · exact absurd h hn0
          · exact h b off e
        · rcases hr5.c.lt' with h | h
          · exact absurd h hn1
          · exact h b off e
      have HB9 := Lib.hid hb9
      clear hb9
      have HT6 := Lib.hid hT6
      have HR6 := Lib.hid hr6
      have HG6 := Lib.hid hG6
      have HQ := Lib.hid (And.intro hq0 hq1)
      have HZ6 := Lib.hid hz6
      clear hT5 hr5 hb5 hq0 hq1 hT6 hr6 hG6 hz6 p0 p1 p2 p3 q0 q1 pc
      have v3 : w.heap.size < w5.heap.size := by omega
      have v4 : w.heap.size + 1 < w5.heap.size := by omega
      have v1 : ¬ w.heap.size = w5.heap.size := by omega
      have v2 : ¬ w.heap.size + 1 = w5.heap.size := by omega
      go_wp2_with (at_builtin; refine stop_here ?_)
      refine stop_go ?_
      generalize w5.alloc (.cells #[.slice B0 x.gens.length k0, .slice B1 x.counts.length k1, .slice A2 x.free.length c2, .int .u64 x.last] 30) = w6 at HT6 HR6 HG6 HZ6 ⊢
      rw [← HZ6.out]
      refine wpList_appendI rfl (.tmp 45) (.tmp 47) _ 3 .i64 8 rfl Tryd.underlying27 info_int (Nat.le_refl _) w6.heap.size (.slice (some ⟨w6.heap.size, 0, none⟩) 1 1) [(n : Int)] A2 c2 x.free rfl rfl (OwnI.one w6 _ _ _ _ (Nat.le_refl _)) (HR6.out.f.keepB ((Below.refl _ _).alloc (Nat.le_refl _) _)) (by have := HH.out.lf; simp; omega) (by simp) ?_
      intro v7 w7 ho7 hg7 hat7
      have hb67 : Below w6.heap.size w6 w7 := ((Below.refl w6.heap.size w6).alloc (Nat.le_refl _) _).grown hg7 (by simp) (fun k e => by simp only [Value.ownBlock, Option.some.injEq] at e; omega)
      obtain ⟨A7, c7, hv7, hr7, hl7, ha7⟩ := ho7.row
      subst hv7
      have hT7 := HT6.out.keep hb67
      have hG7 := HG6.out.keep hb67
      have hR7 := HR6.out.keep hb67
      have g0 := hG7.cell 0
      have g1 := hG7.cell 1
      have g2 := hG7.cell 2
      have g3 := hG7.cell 3
      have fg := hG7.frozen
      have t0 := hT7.b2.cell 0
      have t1 := hT7.b2.cell 1
      have t2 := hT7.b2.cell 2
      have t3 := hT7.b2.cell 3
      have ft := hT7.b2.frozen
      simp only [List.getElem?_toArray, List.getElem?_cons_zero, List.getElem?_cons_succ] at g0 g1 g2 g3 t0 t1 t2 t3
      have h76 := HZ6.out
      have HT7 := Lib.hid hT7
      have HG7 := Lib.hid hG7
      have HR7 := Lib.hid hR7
      have HA7 := Lib.hid ha7
      have HRA := Lib.hid hr7
      have HZ7 := Lib.hid (show w6.heap.size ≤ w7.heap.size from hb67.size)
      have hlen : ([(n : Int)] ++ x.free).length = x.free.length + 1 := by simp
      rw [hlen] at hl7 ⊢
      clear hT7 hG7 hR7 ha7 hr7 hb67 ho7 hg7 hat7 HT6 HG6 HR6 s0 s3 u0 u1 hlen h76
      generalize w5.heap.size = gx at HG7 HB9 g0 g1 g2 g3 fg v1 v2 v3 v4 HZ6 z5 ⊢
      have x1 : ¬ gx = w.heap.size + 1 + 1 := by omega
      have x2 : ¬ w.heap.size + 1 + 1 = gx := by omega
      go_wp2
      have hT8 := HT7.out.far (p := ⟨gx, 2, none⟩) z5 (.slice A7 (x.free.length + 1) c7)
      obtain ⟨kk, kb, kh⟩ := hT8.result (.slice B0 x.gens.length k0) (.slice B1 x.counts.length k1) (.slice A7 (x.free.length + 1) c7) (.int .u64 x.last)
      refine bodyPost_ret (results_cell_row3 rfl _ _ (w.heap.size + 1 + 1) 30 _ (0, 0) _ rfl kk Tryd.underlying30 rfl (by kernel_rfl)) rfl ?_
      have hs8 : ∀ g, g ≠ gx → (w7.setCell ⟨gx, 2, none⟩ (.slice A7 (x.free.length + 1) c7)).heap[g]? = w7.heap[g]? := fun g hg => Below.heap_setCell _ _ _ _ hg
      have hsz1 := HT1.out.sz
      refine ⟨⟨_, rfl, B0, B1, A7, k0, k1, c7, ?_, ?_⟩, kb⟩
      · simp only [Rf.with_, List.length_set, List.length_cons]
      · refine ⟨HR7.out.g.of_same (fun b off e => ?_), HR7.out.c.of_same (fun b off e => ?_), HRA.out.of_same (fun b off e => ?_), HR7.out.cg, HR7.out.cc, ?_, HR7.out.lg, HR7.out.lc, ?_⟩
        · have hq := HQ.out.1 b off e
          have hb9 := HB9.out b off (.inl e)
          rw [kh b (by omega), hs8 b (by omega)]
        · have hq := HQ.out.2 b off e
          have hb9 := HB9.out b off (.inr e)
          rw [kh b (by omega), hs8 b (by omega)]
        · have hq := (HA7.out b off e).1
          have h6 := HZ6.out
          rw [kh b (by omega), hs8 b (by omega)]
        · exact hl7
        · exact hfr
    · have hdrop : (x.drop ((n : Int), gen)).1 = x.with_ n (gen + 1) 0 := by unfold Rf.drop; rw [if_pos HV.out, if_neg (by rw [HC1.out]; decide), if_neg hlast]
      rw [hdrop]
      clear hdrop hpos0 hcz hc1 hpos h2
      go_enter Tryd.func35, Tryd.ntmps35
      go_wp2_with fail
      generalize (((w.alloc (.cells #[.slice A0 x.gens.length c0, .slice (some ⟨bc, oc, none⟩) x.counts.length c1, .slice A2 x.free.length c2, .int .u64 x.last] 30)).alloc (.cells #[.int .i64 n, .int .u64 gen] 34)).alloc (.cells #[.slice none 0 0, .slice none 0 0, .slice none 0 0, .int .u64 0] 30)) = W at HT ⊢
      refine (ref_live (x := x) ⟨A0, _, A2, c0, c1, c2, rfl, HH.out.keep HT.out.be⟩ HL.out ((n : Int), gen)).mono ?_
      rintro e w1 ⟨rfl, hb1⟩
      rw [HLV.out]
      have hT1 := HT.out.keep hb1
      have p0 := hT1.b0.cell 0
      have p1 := hT1.b0.cell 1
      have p2 := hT1.b0.cell 2
      have p3 := hT1.b0.cell 3
      have q0 := hT1.b1.cell 0
      have q1 := hT1.b1.cell 1
      simp only [List.getElem?_toArray, List.getElem?_cons_zero, List.getElem?_cons_succ] at p0 p1 p2 p3 q0 q1
      have pc := (hT1.be.cell (p := ⟨bc, oc + n, none⟩) hbc).trans hcc
      have HT1 := Lib.hid hT1
      clear hT1 hb1 hcc HT
      have hg1 : (0 : Int) ≤ gen := hgen.1
      have hg2 : gen ≤ 1000000 := hgen.2
      go_wp2_with fail
      refine (ref_with (HH.out.keep HT1.out.be) n hn hn' (gen + 1) 0).mono ?_
      rintro e w5 ⟨⟨B0, B1, k0, k1, rfl, hr5, hq0, hq1⟩, hb5⟩
      have hT5 := HT1.out.keep hb5
      have hT6 := hT5.alloc (.cells #[.slice B0 x.gens.length k0, .slice B1 x.counts.length k1, .slice A2 x.free.length c2, .int .u64 x.last] 30)
      have hG6 := Blk.new w5 30 #[.slice B0 x.gens.length k0, .slice B1 x.counts.length k1, .slice A2 x.free.length c2, .int .u64 x.last]
      have hr6 := hr5.keep ((Below.refl w5.heap.size w5).alloc (Nat.le_refl _) (.cells #[.slice B0 x.gens.length k0, .slice B1 x.counts.length k1, .slice A2 x.free.length c2, .int .u64 x.last] 30))
      have hz6 : (w5.alloc (.cells #[.slice B0 x.gens.length k0, .slice B1 x.counts.length k1, .slice A2 x.free.length c2, .int .u64 x.last] 30)).heap.size = w5.heap.size + 1 := by simp
      have s0 := hT5.b0.cell 2
      have s3 := hT5.b0.cell 3
      have u0 := hT5.b1.cell 0
      have u1 := hT5.b1.cell 1
      simp only [List.getElem?_toArray, List.getElem?_cons_zero, List.getElem?_cons_succ] at s0 s3 u0 u1
      have z5 := hT5.sz
      have hb9 : ∀ b off, (B0 = some ⟨b, off, none⟩ ∨ B1 = some ⟨b, off, none⟩) → b < w5.heap.size := by
        have hn0 : (x.with_ n (gen + 1) 0).gens ≠ [] := fun e => by have h3 := congrArg List.length e; simp only [Rf.with_, List.length_set, List.length_nil] at h3; omega
        have hn1 : (x.with_ n (gen + 1) 0).counts ≠ [] := fun e => by have h3 := congrArg List.length e; simp only [Rf.with_, List.length_set, List.length_nil] at h3; omega
        rintro b off (e | e)
        · rcases hr5.g.lt' with h | h
          · exact absurd h hn0
          · exact h b off e
        · rcases hr5.c.lt' with h | h
          · exact absurd h hn1
          · exact h b off e
      have HB9 := Lib.hid hb9
      clear hb9
      have t0 := hT6.b2.cell 0
      have t1 := hT6.b2.cell 1
      have t2 := hT6.b2.cell 2
      have t3 := hT6.b2.cell 3
      have ft := hT6.b2.frozen
      have y0 := hT5.b2.cell 0
      have y1 := hT5.b2.cell 1
      have y2 := hT5.b2.cell 2
      have y3 := hT5.b2.cell 3
      have fy := hT5.b2.frozen
      simp only [List.getElem?_toArray, List.getElem?_cons_zero, List.getElem?_cons_succ] at t0 t1 t2 t3 y0 y1 y2 y3
      have HT5 := Lib.hid hT5
      have HR5 := Lib.hid hr5
      have HT6 := Lib.hid hT6
      have HR6 := Lib.hid hr6
      have HG6 := Lib.hid hG6
      have HQ := Lib.hid (And.intro hq0 hq1)
      have HZ6 := Lib.hid hz6
      clear hT5 hr5 hb5 hq0 hq1 hT6 hr6 hG6 hz6 p0 p1 p2 p3 q0 q1 pc
      have v3 : w.heap.size < w5.heap.size := by omega
      have v4 : w.heap.size + 1 < w5.heap.size := by omega
      have v1 : ¬ w.heap.size = w5.heap.size := by omega
      have v2 : ¬ w.heap.size + 1 = w5.heap.size := by omega
      have v5 : ¬ w5.heap.size = w.heap.size + 1 + 1 := by omega
      have v6 : ¬ w.heap.size + 1 + 1 = w5.heap.size := by omega
      have v7 : w.heap.size + 1 + 1 < w5.heap.size := by omega
      go_wp2
      obtain ⟨kk, kb, kh⟩ := HT5.out.result (.slice B0 x.gens.length k0) (.slice B1 x.counts.length k1) (.slice A2 x.free.length c2) (.int .u64 x.last)
      refine bodyPost_ret (results_cell_row3 rfl _ _ (w.heap.size + 1 + 1) 30 _ (0, 0) _ rfl (Blk.alloc kk _) Tryd.underlying30 rfl (by kernel_rfl)) rfl ?_
      have hsz1 := HT1.out.sz
      have kb' := kb.alloc kb.size (.cells #[.slice B0 x.gens.length k0, .slice B1 x.counts.length k1, .slice A2 x.free.length c2, .int .u64 x.last] 30)
      have hR8 : RfV _ B0 B1 A2 k0 k1 c2 (x.with_ n (gen + 1) 0) := ⟨HR5.out.g.of_same (fun b off e => kh b (by have := HQ.out.1 b off e; omega)), HR5.out.c.of_same (fun b off e => kh b (by have := HQ.out.2 b off e; omega)), HH.out.f.keepB kb, HR5.out.cg, HR5.out.cc, HR5.out.cf, HR5.out.lg, HR5.out.lc, HR5.out.lf⟩
      exact ⟨⟨_, rfl, B0, B1, A2, k0, k1, c2, by simp only [Rf.with_, List.length_set], hR8.keep ((Below.refl _ _).alloc (Nat.le_refl _) _)⟩, kb'⟩
end Go.Proofs.YtkmmnmicmjohgaaDoor
