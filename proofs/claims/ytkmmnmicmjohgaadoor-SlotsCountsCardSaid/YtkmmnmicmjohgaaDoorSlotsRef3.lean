/- The reference's Take, Add and Drop. -/
import Derived.Test.YtkmmnmicmjohgaaDoorSlotsRef2
import Derived.Deep.RegionHeld3
import Derived.StillTailTactics
import Derived.RegionTactic
import Derived.ChangeAlike
import Derived.BigRegion
set_option linter.unusedVariables false
set_option linter.unusedSimpArgs false
namespace Go.Proofs.YtkmmnmicmjohgaaDoor
open Go.RowKit Slots

/-- What stands while Take goes: the struct's box, and those of the results. -/
structure TakeSt (w0 w : World) (ca cb cc : Array Value) : Prop where
  b0 : Blk w w0.heap.size 30 ca
  b1 : Blk w (w0.heap.size + 1) 30 cb
  b2 : Blk w (w0.heap.size + 1 + 1) 34 cc
  be : Below w0.heap.size w0 w
  sz : w0.heap.size + 3 ≤ w.heap.size
section
variable {w0 w w' : World} {ca cb cc : Array Value}
theorem TakeSt.alloc (h : TakeSt w0 w ca cb cc) (o : Obj) : TakeSt w0 (w.alloc o) ca cb cc := ⟨h.b0.alloc o, h.b1.alloc o, h.b2.alloc o, h.be.alloc (by have := h.sz; omega) o, by have := h.sz; simp; omega⟩
theorem TakeSt.drew (h : TakeSt w0 w ca cb cc) : TakeSt w0 w.drew ca cb cc := ⟨h.b0, h.b1, h.b2, h.be.drew, h.sz⟩
theorem TakeSt.keep (h : TakeSt w0 w ca cb cc) (hb : Below w.heap.size w w') : TakeSt w0 w' ca cb cc := ⟨h.b0.keep hb, h.b1.keep hb, h.b2.keep hb, belowOn h.be (by have := h.sz; omega) hb, by have := h.sz; have := hb.size; omega⟩
theorem TakeSt.far (h : TakeSt w0 w ca cb cc) {p : Addr} (hp : w0.heap.size + 3 ≤ p.block) (u : Value) : TakeSt w0 (w.setCell p u) ca cb cc :=
  ⟨h.b0.far (by omega) u, h.b1.far (by omega) u, h.b2.far (by omega) u, h.be.setCell (by omega) u, by have := h.sz; simpa [World.setCell] using this⟩
end
theorem take_blocks (w : World) (ca cb cc : Array Value) : TakeSt w (((w.alloc (.cells ca 30)).alloc (.cells cb 30)).alloc (.cells cc 34)) ca cb cc := by
  refine ⟨((Blk.new w _ _).alloc _).alloc _, ?_, ?_, (((Below.refl _ _).alloc (Nat.le_refl _) _).alloc (by simp) _).alloc (by simp; omega) _, by simp⟩
  · have := (Blk.new (w.alloc (.cells ca 30)) 30 cb).alloc (.cells cc 34)
    simpa using this
  · have := (Blk.new ((w.alloc (.cells ca 30)).alloc (.cells cb 30)) 34 cc)
    simpa using this

set_option maxHeartbeats 1000000 in
theorem ref_take_none {w : World} {v : Value} {x : Rf} (h : RfAt w v x) (h0 : x.free = []) :
    Calls Tryd.prog 33 #[v] w fun e w' => (∃ v', e = .returned (.tuple #[v', .agg #[.int .i64 0, .int .u64 0], .int .i64 8]) ∧ RfAt w' v' x) ∧ Below w.heap.size w w' := by
  obtain ⟨A0, A1, A2, c0, c1, c2, rfl, h⟩ := h
  have hl : x.free.length = 0 := by rw [h0]; rfl
  rw [hl]
  have HH := Lib.hid h
  have HL := Lib.hid hl
  have H0 := Lib.hid h0
  clear h hl h0
  go_enter Tryd.func33, Tryd.ntmps33
  go_wp2
  have hT := take_blocks w #[.slice A0 x.gens.length c0, .slice A1 x.counts.length c1, .slice A2 0 c2, .int .u64 x.last] #[.slice A0 x.gens.length c0, .slice A1 x.counts.length c1, .slice A2 0 c2, .int .u64 x.last] #[.int .i64 0, .int .u64 0]
  refine bodyPost_ret (results_cell2_tmp rfl _ _ (w.heap.size + 1) (w.heap.size + 1 + 1) _ _ _ _ (0, 0) (0, 0) _ _ rfl hT.b1 Tryd.underlying30 rfl (by kernel_rfl) rfl hT.b2 Tryd.underlying34 rfl (by kernel_rfl)) rfl ?_
  refine ⟨⟨_, rfl, A0, A1, A2, c0, c1, c2, by rw [HL.out], HH.out.keep hT.be⟩, hT.be⟩

/-- A row without its first number. -/
theorem slice_tail (b off n c : Nat) (hc : n + 1 ≤ c) : ∃ A c', (∀ W : World, (Instr.sliceAt 27 (.slice (some ⟨b, off, none⟩) (n + 1) c) (some (.int .i64 1)) none none).run Tryd.prog W = .ok (.slice A n c') W) ∧ n ≤ c' ∧ (n = 0 ∨ A = some ⟨b, off + 1, none⟩) := by
  have h1 : 1 ≤ c := by omega
  have h2 : ¬ ((n : Int) + 1 < 1) := by omega
  by_cases hc2 : c = 1
  · subst hc2
    obtain rfl : n = 0 := by omega
    exact ⟨some ⟨b, off, none⟩, 0, fun W => by go_simp, Nat.le_refl _, .inl rfl⟩
  · exact ⟨some ⟨b, off + 1, none⟩, c - 1, fun W => by go_simp, by omega, .inr rfl⟩

set_option maxHeartbeats 8000000 in
theorem ref_take_some {w : World} {v : Value} {x : Rf} (h : RfAt w v x) {n : Nat} {l : List Int} (h0 : x.free = (n : Int) :: l) (hn : n < x.gens.length) (hl : x.counts.length = x.gens.length) :
    Calls Tryd.prog 33 #[v] w fun e w' => (∃ v', e = .returned (.tuple #[v', .agg #[.int .i64 n, .int .u64 (x.gen n)], .int .i64 0]) ∧ RfAt w' v' { x.with_ n (x.gen n) 1 with free := l }) ∧ Below w.heap.size w w' := by
  obtain ⟨A0, A1, A2, c0, c1, c2, rfl, h⟩ := h
  obtain ⟨bg, og, rfl, hbg, hcg⟩ := h.g.at_ (show x.gens[n]? = some (x.gen n) by unfold Rf.gen; rw [Int.toNat_natCast, List.getElem?_eq_getElem hn]; rfl)
  obtain ⟨bf, of', rfl, hbf, hcf⟩ := h.f.at_ (show x.free[0]? = some (n : Int) by rw [h0]; rfl)
  have hfl : x.free.length = l.length + 1 := by rw [h0]; rfl
  rw [hfl]
  rw [Nat.add_zero] at hcf
  have he : ((l.length : Int) + 1 == 0) = false := by simp; omega
  have he1 : 0 < l.length + 1 := by omega
  have he2 : (0 : Int) < (l.length : Int) + 1 := by omega
  have hcap : l.length + 1 ≤ c2 := by have := h.cf; omega
  have HH := Lib.hid h
  have H0 := Lib.hid h0
  have HLC := Lib.hid hl
  have hbf3 := Lib.hid hbf
  have hfl := Lib.hid hfl
  clear h h0 hl
  have hT := take_blocks w #[.slice (some ⟨bg, og, none⟩) x.gens.length c0, .slice A1 x.counts.length c1, .slice (some ⟨bf, of', none⟩) (l.length + 1) c2, .int .u64 x.last] #[.slice none 0 0, .slice none 0 0, .slice none 0 0, .int .u64 0] #[.int .i64 0, .int .u64 0]
  have pf := (hT.be.cell (p := ⟨bf, of', none⟩) hbf).trans hcf
  have HT := Lib.hid hT
  obtain ⟨A9, c9, hsl, hl9, ha9⟩ := slice_tail bf of' l.length c2 hcap
  have HA9 := Lib.hid ha9
  clear hT hcf hbf ha9
  go_enter Tryd.func33, Tryd.ntmps33
  go_wp2_with fail
  generalize (((w.alloc (.cells #[.slice (some ⟨bg, og, none⟩) x.gens.length c0, .slice A1 x.counts.length c1, .slice (some ⟨bf, of', none⟩) (l.length + 1) c2, .int .u64 x.last] 30)).alloc (.cells #[.slice none 0 0, .slice none 0 0, .slice none 0 0, .int .u64 0] 30)).alloc (.cells #[.int .i64 0, .int .u64 0] 34)) = W at HT pf ⊢
  have hT := HT.out
  clear he he1 he2 pf
  have p0 := hT.b0.cell 0
  have p1 := hT.b0.cell 1
  have p2 := hT.b0.cell 2
  have p3 := hT.b0.cell 3
  simp only [List.getElem?_toArray, List.getElem?_cons_zero, List.getElem?_cons_succ] at p0 p1 p2 p3
  have pg : W.cell? ⟨bg, og + n, none⟩ = some (.int .u64 (x.gen n)) := (hT.be.cell (p := ⟨bg, og + n, none⟩) hbg).trans hcg
  have HCG := Lib.hid hcg
  clear hT hcg
  have hnI : (n : Int) < (x.gens.length : Int) := by omega
  have y0 : ¬ w.heap.size = W.heap.size := by have := HT.out.sz; omega
  have y1 : ¬ W.heap.size = w.heap.size := fun e => y0 e.symm
  have y2 : ¬ bg = W.heap.size := by have := HT.out.sz; omega
  have y3 : ¬ W.heap.size = bg := fun e => y2 e.symm
  go_region_held3 (fun w' => w'.cell? ⟨w.heap.size, 0, none⟩ = some (.slice (some ⟨bg, og, none⟩) x.gens.length c0) ∧ w'.cell? ⟨w.heap.size, 1, none⟩ = some (.slice A1 x.counts.length c1) ∧ w'.cell? ⟨w.heap.size, 2, none⟩ = some (.slice (some ⟨bf, of', none⟩) (l.length + 1) c2) ∧ w'.cell? ⟨w.heap.size, 3, none⟩ = some (.int .u64 x.last) ∧ w'.cell? ⟨bg, og + n, none⟩ = some (.int .u64 (x.gen n)))
    (first | exact ⟨p0, p1, p2, p3, pg⟩ | exact ⟨p05, p15, p25, p35, pg5⟩ | go_keep)
    (first
      | (go_at_call 41; have hcw := ref_with (HH.out.keep HT.out.drew.be) n hn (by rw [HLC.out]; exact hn) (x.gen n) 1; rw [hfl.out] at hcw; refine hcw.mono ?_; clear hcw; rintro e w5 ⟨⟨B0, B1, k0, k1, rfl, hr5, hq0, hq1⟩, hb5⟩; have hT5 := HT.out.drew.keep hb5; have p05 := hT5.b0.cell 0; have p15 := hT5.b0.cell 1; have p25 := hT5.b0.cell 2; have p35 := hT5.b0.cell 3; simp only [List.getElem?_toArray, List.getElem?_cons_zero, List.getElem?_cons_succ] at p05 p15 p25 p35; have pg5 : w5.cell? ⟨bg, og + n, none⟩ = some (.int .u64 (x.gen n)) := (hT5.be.cell (p := ⟨bg, og + n, none⟩) hbg).trans HCG.out; have z5 := hT5.sz; have g5 : bg < w5.heap.size := (by omega); have HT5 := Lib.hid hT5; have HR5 := Lib.hid hr5; have HQ := Lib.hid (And.intro hq0 hq1); clear hT5 hr5 hb5 hq0 hq1)
      | (go_at_call 41; have hcw := ref_with (HH.out.keep (HT.out.alloc (.cells #[.slice none 0 0, .slice none 0 0, .slice none 0 0, .int .u64 0] 30)).drew.be) n hn (by rw [HLC.out]; exact hn) (x.gen n) 1; rw [hfl.out] at hcw; refine hcw.mono ?_; clear hcw; rintro e w5 ⟨⟨B0, B1, k0, k1, rfl, hr5, hq0, hq1⟩, hb5⟩; have hT5 := (HT.out.alloc _).drew.keep hb5; have hG5 := (Blk.new W _ _).drew.keep hb5; have p05 := hT5.b0.cell 0; have p15 := hT5.b0.cell 1; have p25 := hT5.b0.cell 2; have p35 := hT5.b0.cell 3; have t0 := hG5.cell 0; have t1 := hG5.cell 1; have t2 := hG5.cell 2; have t3 := hG5.cell 3; have ft := hG5.frozen; simp only [List.getElem?_toArray, List.getElem?_cons_zero, List.getElem?_cons_succ] at p05 p15 p25 p35 t0 t1 t2 t3; have pg5 : w5.cell? ⟨bg, og + n, none⟩ = some (.int .u64 (x.gen n)) := (hT5.be.cell (p := ⟨bg, og + n, none⟩) hbg).trans HCG.out; have z5 := hT5.sz; have g5 : bg < w5.heap.size := (by omega); have HT5 := Lib.hid hT5; have HR5 := Lib.hid hr5; have HG5 := Lib.hid hG5; have HQ := Lib.hid (And.intro hq0 hq1); clear hT5 hr5 hG5 hb5 hq0 hq1))
  all_goals first
    | (have hfin := (((HT5.out.far (p := ⟨W.heap.size, 0, none⟩) HT.out.sz (.slice B0 x.gens.length k0)).far (p := ⟨W.heap.size, 1, none⟩) HT.out.sz (.slice B1 x.counts.length k1)).far (p := ⟨W.heap.size, 2, none⟩) HT.out.sz (.slice (some ⟨bf, of', none⟩) (l.length + 1) c2)).far (p := ⟨W.heap.size, 3, none⟩) HT.out.sz (.int .u64 x.last)
       have hgx := (((HG5.out.set_ 0 (.slice B0 x.gens.length k0)).set_ 1 (.slice B1 x.counts.length k1)).set_ 2 (.slice (some ⟨bf, of', none⟩) (l.length + 1) c2)).set_ 3 (.int .u64 x.last)
       have hzz := HT.out.sz
       have hfar : ∀ b off, (B0 = some ⟨b, off, none⟩ ∨ B1 = some ⟨b, off, none⟩ ∨ (some (⟨bf, of', none⟩ : Addr)) = some ⟨b, off, none⟩) → b ≠ W.heap.size := by
         rintro b off (e | e | e)
         · have := HQ.out.1 b off e; simp at this; omega
         · have := HQ.out.2 b off e; simp at this; omega
         · cases e; have := hbf3.out; omega
       have hgf : ∀ b off, (B0 = some ⟨b, off, none⟩ ∨ B1 = some ⟨b, off, none⟩) → b ≠ W.heap.size ∧ w.heap.size + 3 ≤ b := by
         rintro b off (e | e)
         · have := HQ.out.1 b off e; simp at this; exact ⟨by omega, by omega⟩
         · have := HQ.out.2 b off e; simp at this; exact ⟨by omega, by omega⟩
       have HGF := Lib.hid hgf
       clear hgf
       have hrr : RfV _ B0 B1 (some ⟨bf, of', none⟩) k0 k1 c2 _ := ⟨(((HR5.out.g.far (p := ⟨W.heap.size, 0, none⟩) (fun b off e => hfar b off (.inl e)) (.slice B0 x.gens.length k0)).far (p := ⟨W.heap.size, 1, none⟩) (fun b off e => hfar b off (.inl e)) (.slice B1 x.counts.length k1)).far (p := ⟨W.heap.size, 2, none⟩) (fun b off e => hfar b off (.inl e)) (.slice (some ⟨bf, of', none⟩) (l.length + 1) c2)).far (p := ⟨W.heap.size, 3, none⟩) (fun b off e => hfar b off (.inl e)) (.int .u64 x.last),
         (((HR5.out.c.far (p := ⟨W.heap.size, 0, none⟩) (fun b off e => hfar b off (.inr (.inl e))) (.slice B0 x.gens.length k0)).far (p := ⟨W.heap.size, 1, none⟩) (fun b off e => hfar b off (.inr (.inl e))) (.slice B1 x.counts.length k1)).far (p := ⟨W.heap.size, 2, none⟩) (fun b off e => hfar b off (.inr (.inl e))) (.slice (some ⟨bf, of', none⟩) (l.length + 1) c2)).far (p := ⟨W.heap.size, 3, none⟩) (fun b off e => hfar b off (.inr (.inl e))) (.int .u64 x.last),
         (((HR5.out.f.far (p := ⟨W.heap.size, 0, none⟩) (fun b off e => hfar b off (.inr (.inr e))) (.slice B0 x.gens.length k0)).far (p := ⟨W.heap.size, 1, none⟩) (fun b off e => hfar b off (.inr (.inr e))) (.slice B1 x.counts.length k1)).far (p := ⟨W.heap.size, 2, none⟩) (fun b off e => hfar b off (.inr (.inr e))) (.slice (some ⟨bf, of', none⟩) (l.length + 1) c2)).far (p := ⟨W.heap.size, 3, none⟩) (fun b off e => hfar b off (.inr (.inr e))) (.int .u64 x.last), HR5.out.cg, HR5.out.cc, HR5.out.cf, HR5.out.lg, HR5.out.lc, HR5.out.lf⟩
       clear hfar
       generalize (((w5.setCell ⟨W.heap.size, 0, none⟩ (.slice B0 x.gens.length k0)).setCell ⟨W.heap.size, 1, none⟩ (.slice B1 x.counts.length k1)).setCell ⟨W.heap.size, 2, none⟩ (.slice (some ⟨bf, of', none⟩) (l.length + 1) c2)).setCell ⟨W.heap.size, 3, none⟩ (.int .u64 x.last) = W9 at hfin hgx hrr ⊢
       clear HG5 y0 y1 y2 y3 p0 p1 p2 p3 pg p05 p15 p25 p35 pg5 z5 g5 t0 t1 t2 t3 ft HQ HT5 HR5
       generalize W.heap.size = gx at hgx hzz HGF ⊢)
    | (have hfin : TakeSt w (w5.alloc (.cells #[.slice B0 x.gens.length k0, .slice B1 x.counts.length k1, .slice (some ⟨bf, of', none⟩) (l.length + 1) c2, .int .u64 x.last] 30)) _ _ _ := HT5.out.alloc _
       have hgx := Blk.new w5 30 #[.slice B0 x.gens.length k0, .slice B1 x.counts.length k1, .slice (some ⟨bf, of', none⟩) (l.length + 1) c2, .int .u64 x.last]
       have hrr := HR5.out.keep ((Below.refl w5.heap.size w5).alloc (Nat.le_refl _) (.cells #[.slice B0 x.gens.length k0, .slice B1 x.counts.length k1, .slice (some ⟨bf, of', none⟩) (l.length + 1) c2, .int .u64 x.last] 30))
       have hzz : w.heap.size + 3 ≤ w5.heap.size := z5
       have hgf : ∀ b off, (B0 = some ⟨b, off, none⟩ ∨ B1 = some ⟨b, off, none⟩) → b ≠ w5.heap.size ∧ w.heap.size + 3 ≤ b := by
         have hn0 : (x.with_ n (x.gen n) 1).gens ≠ [] := fun e => by have h3 := congrArg List.length e; simp only [Rf.with_, List.length_set, List.length_nil] at h3; omega
         have hn1 : (x.with_ n (x.gen n) 1).counts ≠ [] := fun e => by have h2 := HLC.out; have h3 := congrArg List.length e; simp only [Rf.with_, List.length_set, List.length_nil] at h3; omega
         have hWz := HT.out.sz
         rintro b off (rfl | rfl)
         · have hq := HQ.out.1 b off rfl
           rcases HR5.out.g with e | ⟨b', off', e, ⟨_, hbk⟩, _⟩
           · exact absurd e hn0
           · have hlt := hbk.lt; cases e; simp at hq; exact ⟨by omega, by omega⟩
         · have hq := HQ.out.2 b off rfl
           rcases HR5.out.c with e | ⟨b', off', e, ⟨_, hbk⟩, _⟩
           · exact absurd e hn1
           · have hlt := hbk.lt; cases e; simp at hq; exact ⟨by omega, by omega⟩
       have HGF := Lib.hid hgf
       clear hgf
       generalize w5.alloc (.cells #[.slice B0 x.gens.length k0, .slice B1 x.counts.length k1, .slice (some ⟨bf, of', none⟩) (l.length + 1) c2, .int .u64 x.last] 30) = W9 at hfin hgx hrr ⊢
       generalize w5.heap.size = gx at hgx hzz HGF ⊢)
  all_goals (
    have d0 := hfin.b0.cell 0
    have d2 := hfin.b0.cell 2
    have e0 := hgx.cell 0
    have e1 := hgx.cell 1
    have e2 := hgx.cell 2
    have e3 := hgx.cell 3
    have fe := hgx.frozen 2
    have r0 := hfin.b1.cell 0
    have r1 := hfin.b1.cell 1
    have r2 := hfin.b1.cell 2
    have r3 := hfin.b1.cell 3
    have s0 := hfin.b2.cell 0
    have s1 := hfin.b2.cell 1
    have fr := hfin.b1.frozen
    have fs := hfin.b2.frozen
    simp only [List.getElem?_toArray, List.getElem?_cons_zero, List.getElem?_cons_succ, List.setIfInBounds_toArray, List.set_cons_zero, List.set_cons_succ] at d0 d2 e0 e1 e2 e3 r0 r1 r2 r3 s0 s1
    have hg9 := (hfin.be.cell (p := ⟨bg, og + n, none⟩) hbg).trans HCG.out
    have HFIN := Lib.hid hfin
    have HGX := Lib.hid hgx
    have HRR := Lib.hid hrr
    clear hfin hgx hrr
    try clear p0 p1 p2 p3 pg p05 p15 p25 p35 pg5 z5 g5
    have h1c : 1 ≤ c2 := by omega
    have h1d : (1 : Int) ≤ (c2 : Int) := by omega
    have x1 : ¬ gx = w.heap.size := by omega
    have x2 : ¬ gx = w.heap.size + 1 := by omega
    have x3 : ¬ gx = w.heap.size + 1 + 1 := by omega
    have x1' : ¬ w.heap.size = gx := by omega
    have x2' : ¬ w.heap.size + 1 = gx := by omega
    have x3' : ¬ w.heap.size + 1 + 1 = gx := by omega
    have x4 : ¬ bg = gx := by omega
    have x5 : ¬ gx = bg := by omega
    go_wp2_with fail
    have hT9 := HFIN.out.far (p := ⟨gx, 2, none⟩) hzz (.slice A9 l.length c9)
    have hG9 := HGX.out.set_ 2 (.slice A9 l.length c9)
    have hr9 : RowI .u64 28 (W9.setCell ⟨gx, 2, none⟩ (.slice A9 l.length c9)) B0 (x.with_ n (x.gen n) 1).gens := HRR.out.g.far (fun b off e => (HGF.out b off (.inl e)).1) _
    have hq9 : RowI .i64 3 (W9.setCell ⟨gx, 2, none⟩ (.slice A9 l.length c9)) B1 (x.with_ n (x.gen n) 1).counts := HRR.out.c.far (fun b off e => (HGF.out b off (.inr e)).1) _
    simp only [List.setIfInBounds_toArray, List.set_cons_zero, List.set_cons_succ] at hG9
    have HLC9 := Lib.hid (And.intro HRR.out.cg (And.intro HRR.out.cc (And.intro HRR.out.lg HRR.out.lc)))
    clear d0 d2 e0 e1 e2 e3 fe r0 r1 r2 r3 s0 s1 fr fs hg9 HFIN HGX HRR hsl
    generalize W9.setCell ⟨gx, 2, none⟩ (.slice A9 l.length c9) = W10 at hT9 hG9 hr9 hq9 ⊢
    have d0 := hT9.b0.cell 0
    have e0 := hG9.cell 0
    have e1 := hG9.cell 1
    have e2 := hG9.cell 2
    have e3 := hG9.cell 3
    have r0 := hT9.b1.cell 0
    have r1 := hT9.b1.cell 1
    have r2 := hT9.b1.cell 2
    have r3 := hT9.b1.cell 3
    have s0 := hT9.b2.cell 0
    have s1 := hT9.b2.cell 1
    have fr := hT9.b1.frozen
    have fs := hT9.b2.frozen
    simp only [List.getElem?_toArray, List.getElem?_cons_zero, List.getElem?_cons_succ] at d0 e0 e1 e2 e3 r0 r1 r2 r3 s0 s1
    have hg9 := (hT9.be.cell (p := ⟨bg, og + n, none⟩) hbg).trans HCG.out
    have hb1 : ¬ bg = w.heap.size := by omega
    have hb2 : ¬ bg = w.heap.size + 1 := by omega
    have hb3 : ¬ bg = w.heap.size + 1 + 1 := by omega
    have hb1' : ¬ w.heap.size = bg := by omega
    have hb2' : ¬ w.heap.size + 1 = bg := by omega
    have hb3' : ¬ w.heap.size + 1 + 1 = bg := by omega
    have HT9 := Lib.hid hT9
    have HR9 := Lib.hid hr9
    have HQ9 := Lib.hid hq9
    clear hT9 hr9 hq9 hG9
    go_region
    all_goals (
      go_wp2
      have kk1 := ((((((HT9.out.b1.set_ 0 (.slice B0 x.gens.length k0)).set_ 1 (.slice B1 x.counts.length k1)).set_ 2 (.slice A9 l.length c9)).set_ 3 (.int .u64 x.last)).far (p := ⟨w.heap.size + 1 + 1, 0, none⟩) (by simp) (.int .i64 n)).far (p := ⟨w.heap.size + 1 + 1, 1, none⟩) (by simp) (.int .u64 (x.gen n))).drew
      have kk2 := ((((((HT9.out.b2.far (p := ⟨w.heap.size + 1, 0, none⟩) (by simp) (.slice B0 x.gens.length k0)).far (p := ⟨w.heap.size + 1, 1, none⟩) (by simp) (.slice B1 x.counts.length k1)).far (p := ⟨w.heap.size + 1, 2, none⟩) (by simp) (.slice A9 l.length c9)).far (p := ⟨w.heap.size + 1, 3, none⟩) (by simp) (.int .u64 x.last)).set_ 0 (.int .i64 n)).set_ 1 (.int .u64 (x.gen n))).drew
      have kb := ((((((HT9.out.be.setCell (p := ⟨w.heap.size + 1, 0, none⟩) (by simp) (.slice B0 x.gens.length k0)).setCell (p := ⟨w.heap.size + 1, 1, none⟩) (by simp) (.slice B1 x.counts.length k1)).setCell (p := ⟨w.heap.size + 1, 2, none⟩) (by simp) (.slice A9 l.length c9)).setCell (p := ⟨w.heap.size + 1, 3, none⟩) (by simp) (.int .u64 x.last)).setCell (p := ⟨w.heap.size + 1 + 1, 0, none⟩) (by simp; omega) (.int .i64 n)).setCell (p := ⟨w.heap.size + 1 + 1, 1, none⟩) (by simp; omega) (.int .u64 (x.gen n))).drew
      have kh : ∀ g, w.heap.size + 3 ≤ g → ((((((W10.setCell ⟨w.heap.size + 1, 0, none⟩ (.slice B0 x.gens.length k0)).setCell ⟨w.heap.size + 1, 1, none⟩ (.slice B1 x.counts.length k1)).setCell ⟨w.heap.size + 1, 2, none⟩ (.slice A9 l.length c9)).setCell ⟨w.heap.size + 1, 3, none⟩ (.int .u64 x.last)).setCell ⟨w.heap.size + 1 + 1, 0, none⟩ (.int .i64 n)).setCell ⟨w.heap.size + 1 + 1, 1, none⟩ (.int .u64 (x.gen n))).drew.heap[g]? = W10.heap[g]? := fun g hg => by
        have h1 : g ≠ w.heap.size + 1 := by omega
        have h2 : g ≠ w.heap.size + 1 + 1 := by omega
        have hd : ∀ W : World, W.drew.heap = W.heap := fun _ => rfl
        rw [hd, Below.heap_setCell _ _ _ _ h2, Below.heap_setCell _ _ _ _ h2, Below.heap_setCell _ _ _ _ h1, Below.heap_setCell _ _ _ _ h1, Below.heap_setCell _ _ _ _ h1, Below.heap_setCell _ _ _ _ h1]
      simp only [List.setIfInBounds_toArray, List.set_cons_zero, List.set_cons_succ] at kk1 kk2
      refine bodyPost_ret (results_cell2_tmp rfl _ _ (w.heap.size + 1) (w.heap.size + 1 + 1) _ _ _ _ (0, 0) (0, 0) _ _ rfl kk1 Tryd.underlying30 rfl (by kernel_rfl) rfl kk2 Tryd.underlying34 rfl (by kernel_rfl)) rfl ?_
      refine ⟨⟨_, rfl, B0, B1, A9, k0, k1, c9, ?_, ?_⟩, kb⟩
      · simp only [Rf.with_, List.length_set]
      · have hfr : RowI .i64 3 w (some ⟨bf, of' + 1, none⟩) l := RowI.tail (by have := HH.out.f; rwa [H0.out] at this)
        refine ⟨HR9.out.of_same (fun b off e => kh b (HGF.out b off (.inl e)).2), HQ9.out.of_same (fun b off e => kh b (HGF.out b off (.inr e)).2), ?_, HLC9.out.1, HLC9.out.2.1, hl9, HLC9.out.2.2.1, HLC9.out.2.2.2, ?_⟩
        · rcases HA9.out with e | e
          · exact .inl (List.length_eq_zero_iff.1 e)
          · have hfr' : RowI .i64 3 w A9 l := by rw [e]; exact hfr
            exact hfr'.keepB kb
        · have := HH.out.lf; rw [hfl.out] at this; exact Nat.le_trans (Nat.le_succ _) this))
end Go.Proofs.YtkmmnmicmjohgaaDoor
