/- The law's run: what stands in a round, and how it is carried over each step. -/
import Derived.Test.YtkmmnmicmjohgaaDoorSlotsDo
import Derived.Test.YtkmmnmicmjohgaaDoorSlotsNew
import Derived.Test.YtkmmnmicmjohgaaDoorSlotsRefDo
import Derived.Test.YtkmmnmicmjohgaaDoorErrCode
import Derived.Test.YtkmmnmicmjohgaaDoorOpen
set_option linter.unusedVariables false
set_option linter.unusedSimpArgs false
namespace Go.Proofs.YtkmmnmicmjohgaaDoor
open Go.RowKit Slots

/-- An act, as it is given. -/
structure ActD where
  k : Int
  c : Int
  d : Int
def ActD.cells (a : ActD) : List Value := [.int .u8 a.k, .int .u8 a.c, .int .u8 a.d]
def ActD.ok (a : ActD) : Prop := (0 ≤ a.k ∧ a.k ≤ 255) ∧ (0 ≤ a.c ∧ a.c ≤ 255) ∧ (0 ≤ a.d ∧ a.d ≤ 255)

theorem code_errV {w : World} {B : ByteArray} {o : Option Int} {v : Value} (h : ErrV w B o v) (hg : ErrType w) :
    Calls Tryd.prog 11 #[v] w fun e w' => e = .returned (.int .i64 (o.getD 0)) ∧ Below w.heap.size w w' := by
  cases o with
  | none =>
    obtain rfl : v = .nilIface := h
    exact code_nil w
  | some c => exact code_chain [B] v c w h hg
theorem errV_far {w : World} {g : Nat} {t : TypeId} {cs : Array Value} {B : ByteArray} {o : Option Int} {z : Value} (h : Blk w g t cs) (ht : t ≠ 98) (hc : ErrV w B o z) (i : Nat) (u : Value) : ErrV (w.setCell ⟨g, i, none⟩ u) B o z := by
  cases o with
  | none => exact hc
  | some c =>
    exact Chain.mono (fun k s v hk => (show Blk w k 98 #[.string s, v] from hk).far (p := ⟨g, i, none⟩) (fun e => ht (by subst e; exact (Classical.not_not.1 fun hn => absurd rfl (Blk.ne_ h (show Blk w k 98 #[.string s, v] from hk) hn)))) u) hc
theorem RfV.fr {w w' : World} {A0 A1 A2 : Option Addr} {c0 c1 c2 : Nat} {x : Rf} {b g : Nat} {s : St} (h : RfV w A0 A1 A2 c0 c1 c2 x) (hA : At w b g s) (hF : Fr w w' (fun i => i = b ∨ i = g)) : RfV w' A0 A1 A2 c0 c1 c2 x := by
  have key : ∀ {k : IntKind} {e : TypeId} {A : Option Addr} {l : List Int}, e ≠ 73 → e ≠ 75 → RowI k e w A l → RowI k e w' A l := by
    intro k e A l h1 h2 hr
    rcases hr with hr | ⟨b', off, rfl, ⟨cur, hb⟩, hr⟩
    · exact .inl hr
    · refine RowI.of_same (.inr ⟨b', off, rfl, ⟨cur, hb⟩, hr⟩) fun b'' off' e => ?_
      cases e
      exact hF.block b' hb.lt (fun hi => by
        rcases hi with rfl | rfl
        · exact absurd rfl (hb.ne_ hA.blk h1)
        · exact absurd rfl (hb.ne_ hA.row h2))
  exact ⟨key (by decide) (by decide) h.g, key (by decide) (by decide) h.c, key (by decide) (by decide) h.f, h.cg, h.cc, h.cf, h.lg, h.lc, h.lf⟩

/-- What stands at a round's head. -/
structure RunSt (w0 wr : World) (b g gx : Nat) (s : St) (x : Rf) (B0 B1 B2 : Option Addr) (k0 k1 k2 : Nat) : Prop where
  at_ : At wr b g s
  box : Blk wr gx 30 #[.slice B0 x.gens.length k0, .slice B1 x.counts.length k1, .slice B2 x.free.length k2, .int .u64 x.last]
  rf : RfV wr B0 B1 B2 k0 k1 k2 x
  res : Blk wr (w0.heap.size + 1) 30 #[.slice none 0 0, .slice none 0 0, .slice none 0 0, .int .u64 0]
  be : Below w0.heap.size w0 wr
  hb : w0.heap.size + 2 ≤ b
  hg : w0.heap.size + 2 ≤ g
  hx : w0.heap.size + 2 ≤ gx
theorem RunSt.done {w0 wr : World} {b g gx : Nat} {s : St} {x : Rf} {B0 B1 B2 : Option Addr} {k0 k1 k2 : Nat} (h : RunSt w0 wr b g gx s x B0 B1 B2 k0 k1 k2) :
    let W := ((((wr.setCell ⟨w0.heap.size + 1, 0, none⟩ (.slice B0 x.gens.length k0)).setCell ⟨w0.heap.size + 1, 1, none⟩ (.slice B1 x.counts.length k1)).setCell ⟨w0.heap.size + 1, 2, none⟩ (.slice B2 x.free.length k2)).setCell ⟨w0.heap.size + 1, 3, none⟩ (.int .u64 x.last)).drew
    Blk W (w0.heap.size + 1) 30 #[.slice B0 x.gens.length k0, .slice B1 x.counts.length k1, .slice B2 x.free.length k2, .int .u64 x.last] ∧ At W b g s ∧ RfV W B0 B1 B2 k0 k1 k2 x ∧ Below w0.heap.size w0 W := by
  intro W
  have hb := h.hb
  have hg := h.hg
  refine ⟨((((h.res.set_ 0 (.slice B0 x.gens.length k0)).set_ 1 (.slice B1 x.counts.length k1)).set_ 2 (.slice B2 x.free.length k2)).set_ 3 (.int .u64 x.last)).drew, ⟨h.at_.ne, ?_, ?_⟩, ?_, ?_⟩
  · exact ((((h.at_.blk.far (p := ⟨w0.heap.size + 1, 0, none⟩) (by simp; omega) _).far (p := ⟨w0.heap.size + 1, 1, none⟩) (by simp; omega) _).far (p := ⟨w0.heap.size + 1, 2, none⟩) (by simp; omega) _).far (p := ⟨w0.heap.size + 1, 3, none⟩) (by simp; omega) _).drew
  · exact ((((h.at_.row.far (p := ⟨w0.heap.size + 1, 0, none⟩) (by simp; omega) _).far (p := ⟨w0.heap.size + 1, 1, none⟩) (by simp; omega) _).far (p := ⟨w0.heap.size + 1, 2, none⟩) (by simp; omega) _).far (p := ⟨w0.heap.size + 1, 3, none⟩) (by simp; omega) _).drew
  · exact RfV.keep ((((h.rf.farT h.res 0 (.slice B0 x.gens.length k0)).farT (h.res.set_ 0 (.slice B0 x.gens.length k0)) 1 (.slice B1 x.counts.length k1)).farT ((h.res.set_ 0 (.slice B0 x.gens.length k0)).set_ 1 (.slice B1 x.counts.length k1)) 2 (.slice B2 x.free.length k2)).farT (((h.res.set_ 0 (.slice B0 x.gens.length k0)).set_ 1 (.slice B1 x.counts.length k1)).set_ 2 (.slice B2 x.free.length k2)) 3 (.int .u64 x.last)) (Below.refl _ _).drew
  · exact ((((h.be.setCell (p := ⟨w0.heap.size + 1, 0, none⟩) (by simp) _).setCell (p := ⟨w0.heap.size + 1, 1, none⟩) (by simp) _).setCell (p := ⟨w0.heap.size + 1, 2, none⟩) (by simp) _).setCell (p := ⟨w0.heap.size + 1, 3, none⟩) (by simp) _).drew
/-- What holds of the states. -/
structure RunOk (k : Int) (s : St) (x : Rf) : Prop where
  sim : Sim s x
  small : Small k s
  len : s.sl.length ≤ 5
  last : s.last ≤ 3

section
variable {w0 w w' : World} {b g gx : Nat} {s s' : St} {x x' : Rf} {B0 B1 B2 : Option Addr} {k0 k1 k2 : Nat}
theorem RunSt.alloc (h : RunSt w0 w b g gx s x B0 B1 B2 k0 k1 k2) (o : Obj) : RunSt w0 (w.alloc o) b g gx s x B0 B1 B2 k0 k1 k2 :=
  ⟨⟨h.at_.ne, h.at_.blk.alloc _, h.at_.row.alloc _⟩, h.box.alloc _, h.rf.keep ((Below.refl _ _).alloc (Nat.le_refl _) _), h.res.alloc _, h.be.alloc h.be.size _, h.hb, h.hg, h.hx⟩
theorem RunSt.keep (h : RunSt w0 w b g gx s x B0 B1 B2 k0 k1 k2) (hb : Below w.heap.size w w') : RunSt w0 w' b g gx s x B0 B1 B2 k0 k1 k2 :=
  ⟨h.at_.keep hb, h.box.keep hb, h.rf.keep hb, h.res.keep hb, belowOn h.be h.be.size hb, h.hb, h.hg, h.hx⟩
theorem RunSt.drew (h : RunSt w0 w b g gx s x B0 B1 B2 k0 k1 k2) : RunSt w0 w.drew b g gx s x B0 B1 B2 k0 k1 k2 := h.keep (Below.refl _ _).drew
/-- An act of the program's has been done. -/
theorem RunSt.did (h : RunSt w0 w b g gx s x B0 B1 B2 k0 k1 k2) (hA : At w' b g s') (hF : Fr w w' (fun i => i = b ∨ i = g)) : RunSt w0 w' b g gx s' x B0 B1 B2 k0 k1 k2 := by
  have hb := h.hb
  have hg := h.hg
  refine ⟨hA, h.box.fr hF ?_, h.rf.fr h.at_ hF, h.res.fr hF (by rintro (e | e) <;> omega), h.be.trans (hF.below h.be.size (by rintro i (rfl | rfl) <;> omega)), h.hb, h.hg, h.hx⟩
  rintro (e | e)
  · exact absurd e (h.box.ne_ h.at_.blk (by decide))
  · exact absurd e (h.box.ne_ h.at_.row (by decide))
theorem RunSt.lt (h : RunSt w0 w b g gx s x B0 B1 B2 k0 k1 k2) : gx < w.heap.size ∧ w0.heap.size + 1 < w.heap.size ∧ b < w.heap.size ∧ g < w.heap.size := ⟨h.box.lt, h.res.lt, h.at_.blk.lt, h.at_.row.lt⟩
/-- A store into a block of its own. -/
theorem RunSt.far (h : RunSt w0 w b g gx s x B0 B1 B2 k0 k1 k2) {c : Nat} {t : TypeId} {cs : Array Value} (hc : Blk w c t cs) (h1 : c ≠ gx) (h2 : c ≠ w0.heap.size + 1) (h3 : c ≠ b) (h4 : c ≠ g) (h5 : 28 ≠ t ∧ 3 ≠ t) (h6 : w0.heap.size ≤ c) (i : Nat) (u : Value) : RunSt w0 (w.setCell ⟨c, i, none⟩ u) b g gx s x B0 B1 B2 k0 k1 k2 :=
  ⟨⟨h.at_.ne, h.at_.blk.far (Ne.symm h3) _, h.at_.row.far (Ne.symm h4) _⟩, h.box.far (Ne.symm h1) _, ⟨h.rf.g.farT hc h5.1 i u, h.rf.c.farT hc h5.2 i u, h.rf.f.farT hc h5.2 i u, h.rf.cg, h.rf.cc, h.rf.cf, h.rf.lg, h.rf.lc, h.rf.lf⟩, h.res.far (Ne.symm h2) _, h.be.setCell h6 _, h.hb, h.hg, h.hx⟩
end

/-- Behind both acts: the state, the handle's box, the error, the new reference. -/
structure Post (w0 w : World) (N b g gx hb : Nat) (s : St) (x x' : Rf) (p : Int × Int) (o : Option Int) (v : Value) (B0 B1 B2 C0 C1 C2 : Option Addr) (k0 k1 k2 i0 i1 i2 : Nat) : Prop where
  st : RunSt w0 w b g gx s x B0 B1 B2 k0 k1 k2
  hbox : Blk w hb 34 #[.int .i64 p.1, .int .u64 p.2]
  err : ErrV w slotsB o v
  rf : RfV w C0 C1 C2 i0 i1 i2 x'
  nx : gx < N
  nr : w0.heap.size + 1 < N
  nb : b < N
  ng : g < N
  nh : hb < N
section
variable {w0 w w' : World} {N b g gx hb : Nat} {s : St} {x x' : Rf} {p : Int × Int} {o : Option Int} {v : Value} {B0 B1 B2 C0 C1 C2 : Option Addr} {k0 k1 k2 i0 i1 i2 : Nat}
theorem Post.alloc (h : Post w0 w N b g gx hb s x x' p o v B0 B1 B2 C0 C1 C2 k0 k1 k2 i0 i1 i2) (ob : Obj) : Post w0 (w.alloc ob) N b g gx hb s x x' p o v B0 B1 B2 C0 C1 C2 k0 k1 k2 i0 i1 i2 :=
  ⟨h.st.alloc _, h.hbox.alloc _, errV_keep h.err ((Below.refl _ _).alloc (Nat.le_refl _) _), h.rf.keep ((Below.refl _ _).alloc (Nat.le_refl _) _), h.nx, h.nr, h.nb, h.ng, h.nh⟩
theorem Post.far (h : Post w0 w N b g gx hb s x x' p o v B0 B1 B2 C0 C1 C2 k0 k1 k2 i0 i1 i2) {c : Nat} {t : TypeId} {cs : Array Value} (hc : Blk w c t cs) (hN : N ≤ c) (h5 : 28 ≠ t ∧ 3 ≠ t) (h6 : t ≠ 98) (i : Nat) (u : Value) : Post w0 (w.setCell ⟨c, i, none⟩ u) N b g gx hb s x x' p o v B0 B1 B2 C0 C1 C2 k0 k1 k2 i0 i1 i2 := by
  have n1 := h.nx
  have n2 := h.nr
  have n3 := h.nb
  have n4 := h.ng
  have n5 := h.nh
  exact ⟨h.st.far hc (by omega) (by omega) (by omega) (by omega) h5 (by omega) i u, h.hbox.far (by simp; omega) _, errV_far hc h6 h.err i u, ⟨h.rf.g.farT hc h5.1 i u, h.rf.c.farT hc h5.2 i u, h.rf.f.farT hc h5.2 i u, h.rf.cg, h.rf.cc, h.rf.cf, h.rf.lg, h.rf.lc, h.rf.lf⟩, h.nx, h.nr, h.nb, h.ng, h.nh⟩
/-- The new reference's box written: four cells. -/
theorem Post.set4 (h : Post w0 w N b g gx hb s x x' p o v B0 B1 B2 C0 C1 C2 k0 k1 k2 i0 i1 i2) {c : Nat} {u0 u1 u2 u3 : Value} (hc : Blk w c 30 #[u0, u1, u2, u3]) (hN : N ≤ c) (v0 v1 v2 v3 : Value) :
    Post w0 ((((w.setCell ⟨c, 0, none⟩ v0).setCell ⟨c, 1, none⟩ v1).setCell ⟨c, 2, none⟩ v2).setCell ⟨c, 3, none⟩ v3) N b g gx hb s x x' p o v B0 B1 B2 C0 C1 C2 k0 k1 k2 i0 i1 i2 ∧ Blk ((((w.setCell ⟨c, 0, none⟩ v0).setCell ⟨c, 1, none⟩ v1).setCell ⟨c, 2, none⟩ v2).setCell ⟨c, 3, none⟩ v3) c 30 #[v0, v1, v2, v3] :=
  ⟨(((h.far hc hN (by decide) (by decide) 0 v0).far (hc.set_ 0 v0) hN (by decide) (by decide) 1 v1).far ((hc.set_ 0 v0).set_ 1 v1) hN (by decide) (by decide) 2 v2).far (((hc.set_ 0 v0).set_ 1 v1).set_ 2 v2) hN (by decide) (by decide) 3 v3, (((hc.set_ 0 v0).set_ 1 v1).set_ 2 v2).set_ 3 v3⟩
/-- The new handle's box written: two cells. -/
theorem Post.set2 (h : Post w0 w N b g gx hb s x x' p o v B0 B1 B2 C0 C1 C2 k0 k1 k2 i0 i1 i2) {c : Nat} {u0 u1 : Value} (hc : Blk w c 34 #[u0, u1]) (hN : N ≤ c) (v0 v1 : Value) :
    Post w0 ((w.setCell ⟨c, 0, none⟩ v0).setCell ⟨c, 1, none⟩ v1) N b g gx hb s x x' p o v B0 B1 B2 C0 C1 C2 k0 k1 k2 i0 i1 i2 ∧ Blk ((w.setCell ⟨c, 0, none⟩ v0).setCell ⟨c, 1, none⟩ v1) c 34 #[v0, v1] :=
  ⟨(h.far hc hN (by decide) (by decide) 0 v0).far (hc.set_ 0 v0) hN (by decide) (by decide) 1 v1, (hc.set_ 0 v0).set_ 1 v1⟩
end

/-- What region 7 reads: the reference's box, and the act. -/
structure KSt (N : Nat) (w : World) (gx : Nat) (v0 v1 v2 v3 : Value) (ba oa : Nat) (u0 u1 u2 : Value) : Prop where
  box : Blk w gx 30 #[v0, v1, v2, v3]
  a0 : w.cell? ⟨ba, oa, none⟩ = some u0
  a1 : w.cell? ⟨ba, oa + 1, none⟩ = some u1
  a2 : w.cell? ⟨ba, oa + 2, none⟩ = some u2
  nx : gx < N
  na : ba < N
  sz : N ≤ w.heap.size
section
variable {N : Nat} {w w' : World} {gx : Nat} {v0 v1 v2 v3 : Value} {ba oa : Nat} {u0 u1 u2 : Value}
theorem KSt.keep (h : KSt N w gx v0 v1 v2 v3 ba oa u0 u1 u2) (hb : Below w.heap.size w w') : KSt N w' gx v0 v1 v2 v3 ba oa u0 u1 u2 :=
  have hl : ba < w.heap.size := Nat.lt_of_lt_of_le h.na h.sz
  ⟨h.box.keep hb, (hb.cell (p := ⟨ba, oa, none⟩) hl).trans h.a0, (hb.cell (p := ⟨ba, oa + 1, none⟩) hl).trans h.a1, (hb.cell (p := ⟨ba, oa + 2, none⟩) hl).trans h.a2, h.nx, h.na, Nat.le_trans h.sz hb.size⟩
theorem KSt.alloc (h : KSt N w gx v0 v1 v2 v3 ba oa u0 u1 u2) (o : Obj) : KSt N (w.alloc o) gx v0 v1 v2 v3 ba oa u0 u1 u2 := h.keep ((Below.refl _ _).alloc (Nat.le_refl _) _)
theorem KSt.drew (h : KSt N w gx v0 v1 v2 v3 ba oa u0 u1 u2) : KSt N w.drew gx v0 v1 v2 v3 ba oa u0 u1 u2 := h.keep (Below.refl _ _).drew
theorem KSt.set_ (h : KSt N w gx v0 v1 v2 v3 ba oa u0 u1 u2) {c : Nat} (hc : N ≤ c) (i : Nat) (u : Value) : KSt N (w.setCell ⟨c, i, none⟩ u) gx v0 v1 v2 v3 ba oa u0 u1 u2 := by
  have h1 := h.nx
  have h2 := h.na
  have hh : (w.setCell ⟨c, i, none⟩ u).heap[ba]? = w.heap[ba]? := Below.heap_setCell _ _ _ _ (by simp; omega)
  have hcell : ∀ j, (w.setCell ⟨c, i, none⟩ u).cell? ⟨ba, j, none⟩ = w.cell? ⟨ba, j, none⟩ := fun j => by simp only [World.cell?, hh]
  exact ⟨h.box.far (by simp; omega) u, (hcell _).trans h.a0, (hcell _).trans h.a1, (hcell _).trans h.a2, h.nx, h.na, by have := h.sz; simpa [World.setCell] using this⟩
theorem KSt.s (h : KSt N w gx v0 v1 v2 v3 ba oa u0 u1 u2) : w.cell? ⟨gx, 0, none⟩ = some v0 ∧ w.cell? ⟨gx, 1, none⟩ = some v1 ∧ w.cell? ⟨gx, 2, none⟩ = some v2 ∧ w.cell? ⟨gx, 3, none⟩ = some v3 ∧ w.cell? ⟨ba, oa, none⟩ = some u0 ∧ w.cell? ⟨ba, oa + 1, none⟩ = some u1 ∧ w.cell? ⟨ba, oa + 2, none⟩ = some u2 :=
  ⟨(h.box.cell 0).trans rfl, (h.box.cell 1).trans rfl, (h.box.cell 2).trans rfl, (h.box.cell 3).trans rfl, h.a0, h.a1, h.a2⟩
end

/-! ### The six orders of a round's two boxes -/
theorem post_a {w0 w : World} {N b g gx hb : Nat} {s : St} {x x' : Rf} {p : Int × Int} {o : Option Int} {v : Value} {B0 B1 B2 C0 C1 C2 : Option Addr} {k0 k1 k2 i0 i1 i2 : Nat} (h : Post w0 (w) N b g gx hb s x x' p o v B0 B1 B2 C0 C1 C2 k0 k1 k2 i0 i1 i2) (v0 v1 v2 v3 y0 y1 : Value) :
    Post w0 ((w.alloc (.cells #[v0, v1, v2, v3] 30)).alloc (.cells #[y0, y1] 34)) N b g gx hb s x x' p o v B0 B1 B2 C0 C1 C2 k0 k1 k2 i0 i1 i2 ∧ Blk ((w.alloc (.cells #[v0, v1, v2, v3] 30)).alloc (.cells #[y0, y1] 34)) (w.heap.size) 30 #[v0, v1, v2, v3] ∧ Blk ((w.alloc (.cells #[v0, v1, v2, v3] 30)).alloc (.cells #[y0, y1] 34)) (w.heap.size + 1) 34 #[y0, y1] := by
  have h2 := Blk.new (w.alloc (.cells #[v0, v1, v2, v3] 30)) 34 #[y0, y1]
  rw [show (w.alloc (.cells #[v0, v1, v2, v3] 30)).heap.size = w.heap.size + 1 by simp] at h2
  exact ⟨(h.alloc _).alloc _, (Blk.new w _ _).alloc _, h2⟩
theorem post_b {w0 w : World} {N b g gx hb : Nat} {s : St} {x x' : Rf} {p : Int × Int} {o : Option Int} {v : Value} {B0 B1 B2 C0 C1 C2 : Option Addr} {k0 k1 k2 i0 i1 i2 : Nat} (h : Post w0 (w) N b g gx hb s x x' p o v B0 B1 B2 C0 C1 C2 k0 k1 k2 i0 i1 i2) (v0 v1 v2 v3 y0 y1 : Value) :
    Post w0 ((w.alloc (.cells #[y0, y1] 34)).alloc (.cells #[v0, v1, v2, v3] 30)) N b g gx hb s x x' p o v B0 B1 B2 C0 C1 C2 k0 k1 k2 i0 i1 i2 ∧ Blk ((w.alloc (.cells #[y0, y1] 34)).alloc (.cells #[v0, v1, v2, v3] 30)) (w.heap.size + 1) 30 #[v0, v1, v2, v3] ∧ Blk ((w.alloc (.cells #[y0, y1] 34)).alloc (.cells #[v0, v1, v2, v3] 30)) (w.heap.size) 34 #[y0, y1] := by
  have h2 := Blk.new (w.alloc (.cells #[y0, y1] 34)) 30 #[v0, v1, v2, v3]
  rw [show (w.alloc (.cells #[y0, y1] 34)).heap.size = w.heap.size + 1 by simp] at h2
  exact ⟨(h.alloc _).alloc _, h2, (Blk.new w _ _).alloc _⟩
theorem post_c {w0 w : World} {N b g gx hb : Nat} {s : St} {x x' : Rf} {p : Int × Int} {o : Option Int} {v : Value} {B0 B1 B2 C0 C1 C2 : Option Addr} {k0 k1 k2 i0 i1 i2 : Nat} (h : Post w0 (w) N b g gx hb s x x' p o v B0 B1 B2 C0 C1 C2 k0 k1 k2 i0 i1 i2) {c : Nat} {u0 u1 u2 u3 : Value} (hc : Blk w c 30 #[u0, u1, u2, u3]) (hcN : N ≤ c) (v0 v1 v2 v3 y0 y1 : Value) :
    Post w0 ((((((w).setCell ⟨c, 0, none⟩ v0).setCell ⟨c, 1, none⟩ v1).setCell ⟨c, 2, none⟩ v2).setCell ⟨c, 3, none⟩ v3).alloc (.cells #[y0, y1] 34)) N b g gx hb s x x' p o v B0 B1 B2 C0 C1 C2 k0 k1 k2 i0 i1 i2 ∧ Blk ((((((w).setCell ⟨c, 0, none⟩ v0).setCell ⟨c, 1, none⟩ v1).setCell ⟨c, 2, none⟩ v2).setCell ⟨c, 3, none⟩ v3).alloc (.cells #[y0, y1] 34)) (c) 30 #[v0, v1, v2, v3] ∧ Blk ((((((w).setCell ⟨c, 0, none⟩ v0).setCell ⟨c, 1, none⟩ v1).setCell ⟨c, 2, none⟩ v2).setCell ⟨c, 3, none⟩ v3).alloc (.cells #[y0, y1] 34)) (w.heap.size) 34 #[y0, y1] := by
  obtain ⟨h1, h2⟩ := h.set4 hc hcN v0 v1 v2 v3
  have h3 := Blk.new (((((w).setCell ⟨c, 0, none⟩ v0).setCell ⟨c, 1, none⟩ v1).setCell ⟨c, 2, none⟩ v2).setCell ⟨c, 3, none⟩ v3) 34 #[y0, y1]
  rw [show (((((w).setCell ⟨c, 0, none⟩ v0).setCell ⟨c, 1, none⟩ v1).setCell ⟨c, 2, none⟩ v2).setCell ⟨c, 3, none⟩ v3).heap.size = w.heap.size by simp [World.setCell]] at h3
  exact ⟨h1.alloc _, h2.alloc _, h3⟩
theorem post_d {w0 w : World} {N b g gx hb : Nat} {s : St} {x x' : Rf} {p : Int × Int} {o : Option Int} {v : Value} {B0 B1 B2 C0 C1 C2 : Option Addr} {k0 k1 k2 i0 i1 i2 : Nat} (h : Post w0 (w) N b g gx hb s x x' p o v B0 B1 B2 C0 C1 C2 k0 k1 k2 i0 i1 i2) {c : Nat} {u0 u1 u2 u3 : Value} (hc : Blk w c 30 #[u0, u1, u2, u3]) (hcN : N ≤ c) {d : Nat} {z0 z1 : Value} (hd : Blk w d 34 #[z0, z1]) (hdN : N ≤ d) (hne : d ≠ c) (v0 v1 v2 v3 y0 y1 : Value) :
    Post w0 (((((((w).setCell ⟨c, 0, none⟩ v0).setCell ⟨c, 1, none⟩ v1).setCell ⟨c, 2, none⟩ v2).setCell ⟨c, 3, none⟩ v3).setCell ⟨d, 0, none⟩ y0).setCell ⟨d, 1, none⟩ y1) N b g gx hb s x x' p o v B0 B1 B2 C0 C1 C2 k0 k1 k2 i0 i1 i2 ∧ Blk (((((((w).setCell ⟨c, 0, none⟩ v0).setCell ⟨c, 1, none⟩ v1).setCell ⟨c, 2, none⟩ v2).setCell ⟨c, 3, none⟩ v3).setCell ⟨d, 0, none⟩ y0).setCell ⟨d, 1, none⟩ y1) (c) 30 #[v0, v1, v2, v3] ∧ Blk (((((((w).setCell ⟨c, 0, none⟩ v0).setCell ⟨c, 1, none⟩ v1).setCell ⟨c, 2, none⟩ v2).setCell ⟨c, 3, none⟩ v3).setCell ⟨d, 0, none⟩ y0).setCell ⟨d, 1, none⟩ y1) (d) 34 #[y0, y1] := by
  obtain ⟨h1, h2⟩ := h.set4 hc hcN v0 v1 v2 v3
  have hd' := (((hd.far (p := ⟨c, 0, none⟩) hne v0).far (p := ⟨c, 1, none⟩) hne v1).far (p := ⟨c, 2, none⟩) hne v2).far (p := ⟨c, 3, none⟩) hne v3
  obtain ⟨h3, h4⟩ := h1.set2 hd' hdN y0 y1
  exact ⟨h3, (h2.far (p := ⟨d, 0, none⟩) (Ne.symm hne) y0).far (p := ⟨d, 1, none⟩) (Ne.symm hne) y1, h4⟩
theorem post_e {w0 w : World} {N b g gx hb : Nat} {s : St} {x x' : Rf} {p : Int × Int} {o : Option Int} {v : Value} {B0 B1 B2 C0 C1 C2 : Option Addr} {k0 k1 k2 i0 i1 i2 : Nat} (h : Post w0 (w) N b g gx hb s x x' p o v B0 B1 B2 C0 C1 C2 k0 k1 k2 i0 i1 i2) {d : Nat} {z0 z1 : Value} (hd : Blk w d 34 #[z0, z1]) (hdN : N ≤ d) (v0 v1 v2 v3 y0 y1 : Value) :
    Post w0 ((((w).setCell ⟨d, 0, none⟩ y0).setCell ⟨d, 1, none⟩ y1).alloc (.cells #[v0, v1, v2, v3] 30)) N b g gx hb s x x' p o v B0 B1 B2 C0 C1 C2 k0 k1 k2 i0 i1 i2 ∧ Blk ((((w).setCell ⟨d, 0, none⟩ y0).setCell ⟨d, 1, none⟩ y1).alloc (.cells #[v0, v1, v2, v3] 30)) (w.heap.size) 30 #[v0, v1, v2, v3] ∧ Blk ((((w).setCell ⟨d, 0, none⟩ y0).setCell ⟨d, 1, none⟩ y1).alloc (.cells #[v0, v1, v2, v3] 30)) (d) 34 #[y0, y1] := by
  obtain ⟨h1, h2⟩ := h.set2 hd hdN y0 y1
  have h3 := Blk.new (((w).setCell ⟨d, 0, none⟩ y0).setCell ⟨d, 1, none⟩ y1) 30 #[v0, v1, v2, v3]
  rw [show (((w).setCell ⟨d, 0, none⟩ y0).setCell ⟨d, 1, none⟩ y1).heap.size = w.heap.size by simp [World.setCell]] at h3
  exact ⟨h1.alloc _, h3, h2.alloc _⟩

/-- The reference's box takes over what was told: the next round's state. -/
theorem Post.next {w0 w : World} {N b g gx hb : Nat} {s : St} {x x' : Rf} {p : Int × Int} {o : Option Int} {v : Value} {B0 B1 B2 C0 C1 C2 : Option Addr} {k0 k1 k2 i0 i1 i2 : Nat} (h : Post w0 w N b g gx hb s x x' p o v B0 B1 B2 C0 C1 C2 k0 k1 k2 i0 i1 i2) {d : Nat} {y0 y1 : Value} (hd : Blk w d 34 #[y0, y1]) :
    RunSt w0 ((((w.setCell ⟨gx, 0, none⟩ (.slice C0 x'.gens.length i0)).setCell ⟨gx, 1, none⟩ (.slice C1 x'.counts.length i1)).setCell ⟨gx, 2, none⟩ (.slice C2 x'.free.length i2)).setCell ⟨gx, 3, none⟩ (.int .u64 x'.last)) b g gx s x' C0 C1 C2 i0 i1 i2 ∧
    Blk ((((w.setCell ⟨gx, 0, none⟩ (.slice C0 x'.gens.length i0)).setCell ⟨gx, 1, none⟩ (.slice C1 x'.counts.length i1)).setCell ⟨gx, 2, none⟩ (.slice C2 x'.free.length i2)).setCell ⟨gx, 3, none⟩ (.int .u64 x'.last)) hb 34 #[.int .i64 p.1, .int .u64 p.2] ∧
    Blk ((((w.setCell ⟨gx, 0, none⟩ (.slice C0 x'.gens.length i0)).setCell ⟨gx, 1, none⟩ (.slice C1 x'.counts.length i1)).setCell ⟨gx, 2, none⟩ (.slice C2 x'.free.length i2)).setCell ⟨gx, 3, none⟩ (.int .u64 x'.last)) d 34 #[y0, y1] ∧
    ErrV ((((w.setCell ⟨gx, 0, none⟩ (.slice C0 x'.gens.length i0)).setCell ⟨gx, 1, none⟩ (.slice C1 x'.counts.length i1)).setCell ⟨gx, 2, none⟩ (.slice C2 x'.free.length i2)).setCell ⟨gx, 3, none⟩ (.int .u64 x'.last)) slotsB o v := by
  have hx0 := h.st.box
  have hx1 := hx0.set_ 0 (.slice C0 x'.gens.length i0)
  have hx2 := hx1.set_ 1 (.slice C1 x'.counts.length i1)
  have hx3 := hx2.set_ 2 (.slice C2 x'.free.length i2)
  have hx4 := hx3.set_ 3 (.int .u64 x'.last)
  have nb : b ≠ gx := Ne.symm (hx0.ne_ h.st.at_.blk (by decide))
  have ng : g ≠ gx := Ne.symm (hx0.ne_ h.st.at_.row (by decide))
  have nh : hb ≠ gx := h.hbox.ne_ hx0 (by decide)
  have nd : d ≠ gx := hd.ne_ hx0 (by decide)
  have nr : w0.heap.size + 1 ≠ gx := by have := h.st.hx; omega
  have hw : w0.heap.size ≤ gx := by have := h.st.hx; omega
  refine ⟨⟨⟨h.st.at_.ne, (((h.st.at_.blk.far nb _).far nb _).far nb _).far nb _, (((h.st.at_.row.far ng _).far ng _).far ng _).far ng _⟩, hx4, ?_, (((h.st.res.far nr _).far nr _).far nr _).far nr _, (((h.st.be.setCell hw _).setCell hw _).setCell hw _).setCell hw _, h.st.hb, h.st.hg, h.st.hx⟩,
    (((h.hbox.far nh _).far nh _).far nh _).far nh _, (((hd.far nd _).far nd _).far nd _).far nd _,
    errV_far hx3 (by decide) (errV_far hx2 (by decide) (errV_far hx1 (by decide) (errV_far hx0 (by decide) h.err 0 _) 1 _) 2 _) 3 _⟩
  exact (((h.rf.farT hx0 0 _).farT hx1 1 _).farT hx2 2 _).farT hx3 3 _

/-- What the comparison reads: two handles' boxes, the reference's. -/
structure CSt (w : World) (hb d gx : Nat) (p0 p1 v0 v1 v2 v3 : Value) : Prop where
  h1 : Blk w hb 34 #[p0, p1]
  h2 : Blk w d 34 #[p0, p1]
  bx : Blk w gx 30 #[v0, v1, v2, v3]
theorem CSt.keep {w w' : World} {hb d gx : Nat} {p0 p1 v0 v1 v2 v3 : Value} (h : CSt w hb d gx p0 p1 v0 v1 v2 v3) (hbe : Below w.heap.size w w') : CSt w' hb d gx p0 p1 v0 v1 v2 v3 := ⟨h.h1.keep hbe, h.h2.keep hbe, h.bx.keep hbe⟩
theorem CSt.drew {w : World} {hb d gx : Nat} {p0 p1 v0 v1 v2 v3 : Value} (h : CSt w hb d gx p0 p1 v0 v1 v2 v3) : CSt w.drew hb d gx p0 p1 v0 v1 v2 v3 := ⟨h.h1, h.h2, h.bx⟩
theorem CSt.s {w : World} {hb d gx : Nat} {p0 p1 v0 v1 v2 v3 : Value} (h : CSt w hb d gx p0 p1 v0 v1 v2 v3) : w.cell? ⟨hb, 0, none⟩ = some p0 ∧ w.cell? ⟨hb, 1, none⟩ = some p1 ∧ w.cell? ⟨d, 0, none⟩ = some p0 ∧ w.cell? ⟨d, 1, none⟩ = some p1 ∧ w.cell? ⟨gx, 0, none⟩ = some v0 ∧ w.cell? ⟨gx, 1, none⟩ = some v1 ∧ w.cell? ⟨gx, 2, none⟩ = some v2 ∧ w.cell? ⟨gx, 3, none⟩ = some v3 :=
  ⟨(h.h1.cell 0).trans rfl, (h.h1.cell 1).trans rfl, (h.h2.cell 0).trans rfl, (h.h2.cell 1).trans rfl, (h.bx.cell 0).trans rfl, (h.bx.cell 1).trans rfl, (h.bx.cell 2).trans rfl, (h.bx.cell 3).trans rfl⟩
end Go.Proofs.YtkmmnmicmjohgaaDoor
