/- A range over a function whose iterator writes boxes of its own (a captured variable): the law of the statement, for a body that never leaves the loop. -/
import Derived.Test.YtnipglclecafiaaDoorProg
import Derived.Test.YtnipglclecafiaaDoorBase
import Derived.RangeFuncNested
import Derived.RangeFuncBound
import Derived.RangeFuncCalls
import Derived.RangeFuncLeaves
import Derived.Shelf.Abstract
import Derived.Shelf.RegionOpen
import Derived.WalkKit
import Derived.OwnWalkIn
import Derived.TacticsInMore
import Derived.LoopNIn
import Derived.LoopIn
set_option linter.unusedVariables false
set_option linter.unusedSimpArgs false
namespace Go.Proofs.YtnipglclecafiaaDoor
open Go.RowKit Go.Shelf

/-- J speaks of no block of B: it abides new blocks, and a turn of one of B's. -/
def Abides {β : Type} (B : Nat → Prop) (J : β → World → Prop) : Prop := ∀ s W W' row, J s W → W.grownBy W' row → (∀ r, row = some r → B r) → J s W'
/-- The iterator's contract: it writes blocks of B; whatever comes, comes; the rounds keep Kp. -/
def IterAt {α : Type} (F : Fence) (n : Nat) (P : Program) (g : Nat) (lb : Array Value) (encs : α → Array Value) (Kp : World → World → Prop) (xs : List α) (B : Nat → Prop) (m : Nat) (W : World) : Prop :=
  ∀ (l : Nat) (J : List α → World → Prop), Abides B J →
    (∀ pre x W1, J pre W1 → (∃ rest, xs = pre ++ x :: rest) → m ≤ W1.heap.size → YieldAt F (n - 1) P l (encs x) W1 fun e W' => e = .returned (.bool true) ∧ J (pre ++ [x]) W' ∧ Kp W1 W') →
    J [] W → CallsIn F n P g (#[.func (.yield l) #[] #[]] ++ lb) W fun e W' => (∃ v, e = .returned v) ∧ J xs W'
/-- How a round's body is left. -/
def bodyEnd {α : Type} (Kp : World → World → Prop) (I : List α → World → Prop) (xs : List α) (W : World) : Exit → Act → World → Prop
  | .normal, _, W' => KeepsOthers W W' ∧ Kp W W' ∧ I xs W'
  | _, _, _ => False

theorem rangeFunc_boxes {α : Type} {F : Fence} {n : Nat} {P : Program} {g : Operand} {ps : Array Tmp} {assign body : Code} {Q : Exit → Act → World → Prop} {a : Act} {w : World} (hro : F.round = none) (h1 : 1 ≤ n)
    {gf : Nat} {lb : Array Value} (hg : a.eval g = .func (.func gf) #[] lb) (hFg : F.fn gf) (eg : ∀ args w, (callFunc gf args).run P w = .ok (.enter gf args) w)
    {encs : α → Array Value} {Kp : World → World → Prop} {xs : List α} {B : Nat → Prop} {m : Nat}
    (hseq : ∀ W, Below w.heap.size w W → W.heap.size = w.heap.size + 2 → IterAt F (n - 1) P gf lb encs Kp xs B m W)
    (hKt : ∀ {A B C : World}, Kp A B → Kp B C → Kp A C) (hKb : ∀ (W : World) (o : Obj), w.heap.size + 1 < W.heap.size → Kp W (W.putObj (w.heap.size + 1) o))
    (hps : ∀ x, (encs x).size = ps.size) (hB0 : ¬ B w.heap.size) (hB1 : ¬ B (w.heap.size + 1))
    (I : List α → World → Prop) (hIB : Abides (fun r => B r ∨ r = w.heap.size + 1) I) (h0 : I [] w) (a₁ : α → Act)
    (hassign : ∀ (l : Nat) (x : α) (W : World) (K : Act → World → Prop), K (a₁ x) W →
      assign.wpIn (F.inRound l) (n - 1 - 1) P (Exit.then K (fun _ _ _ => False)) { tmps := (ps.zip (encs x)).foldl (fun t (p, v) => t.setIfInBounds p v) a.tmps, defers := [] } W)
    (hbody : ∀ (l : Nat) (pre : List α) (x : α) (W : World), I pre W → (∃ rest, xs = pre ++ x :: rest) → m ≤ W.heap.size → body.wpIn (F.inRound l) (n - 1 - 1) P (bodyEnd Kp I (pre ++ [x]) W) (a₁ x) W)
    (hdone : ∀ (W : World), I xs W → W.heap[w.heap.size]? = some (.deferred (some [])) → Q .normal { a with defers := { target := .collected w.heap.size, args := #[] } :: a.defers } W) :
    (Code.rangeFunc g ps assign body).wpIn F n P Q a w := by
  have halloc : ∀ s W o, I s W → I s (W.alloc o) := fun s W o h => hIB s W _ none h (World.grownBy_alloc W o none) (fun r e => by cases e)
  have hput : ∀ s W o, I s W → I s (W.putObj (w.heap.size + 1) o) := fun s W o h => hIB s W _ _ h (grownBy_putObj' W _ o) (fun r e => by cases e; exact .inr rfl)
  refine wpIn_rangeFunc fun fn hfn => ?_
  rw [hro]
  -- the loop's record, by its state
  obtain ⟨R, hR⟩ : ∃ R : LoopState → Loop, R = fun st => { state := st, pending := none, fn, tmps := a.tmps, params := ps, assign, body, defers := w.heap.size } := ⟨_, rfl⟩
  have hz : (w.alloc (.deferred (some []))).heap.size = w.heap.size + 1 := by simp
  have hrec : ((w.alloc (.deferred (some []))).alloc (.loop (R .ready))).heap[w.heap.size + 1]? = some (.loop (R .ready)) := by
    have := World.alloc_heap_new (w.alloc (.deferred (some []))) (.loop (R .ready))
    rwa [hz] at this
  have hdef : ((w.alloc (.deferred (some []))).alloc (.loop (R .ready))).heap[w.heap.size]? = some (.deferred (some [])) :=
    (Below.heap_alloc _ _ _ (by simp)).trans (World.alloc_heap_new w _)
  have hbelow : Below w.heap.size w ((w.alloc (.deferred (some []))).alloc (.loop (R .ready))) := ((Below.refl _ w).alloc (Nat.le_refl _) _).alloc (by simp) _
  have hsz : ((w.alloc (.deferred (some []))).alloc (.loop (R .ready))).heap.size = w.heap.size + 2 := by simp
  have hI1 : I [] ((w.alloc (.deferred (some []))).alloc (.loop (R .ready))) := halloc _ _ _ (halloc _ _ _ h0)
  have hent := run_enterLoop_outer (P := P) (w := w) fn a.tmps ps assign body
  rw [show ({ state := .ready, pending := none, fn, tmps := a.tmps, params := ps, assign, body, defers := w.heap.size } : Loop) = R .ready by rw [hR]] at hent
  generalize (w.alloc (.deferred (some []))).alloc (.loop (R .ready)) = W1 at hrec hdef hbelow hsz hI1 hent
  refine ⟨_, _, W1, { target := .fn (.func gf) lb, args := #[.func (.yield (w.heap.size + 1)) #[] #[]] }, W1, gf, #[.func (.yield (w.heap.size + 1)) #[] #[]] ++ lb, W1, hent, ?_, ?_, ?_, fun _ => h1, ?_⟩
  · simp only [resolve, hg]
    simp [go_sem]
  · intro f' hf'
    simp [Target.leads] at hf'
    exact hf' ▸ hFg
  · simp [invoke, go_sem, eg]
  -- the iterator, at the invariant with the record and the deferred calls' block beside it
  refine (hseq W1 hbelow hsz (w.heap.size + 1) (fun pre W => I pre W ∧ W.heap[w.heap.size + 1]? = some (.loop (R .ready)) ∧ W.heap[w.heap.size]? = some (.deferred (some []))) ?_ ?_ ⟨hI1, hrec, hdef⟩).mono ?_
  · intro s A A' row hs hgr hr
    refine ⟨hIB s A A' row hs.1 hgr (fun r e => .inl (hr r e)), (hgr.block _ (Array.getElem?_eq_some_iff.1 hs.2.1).1 fun e => hB1 (hr _ e.symm)).trans hs.2.1, (hgr.block _ (Array.getElem?_eq_some_iff.1 hs.2.2).1 fun e => hB0 (hr _ e.symm)).trans hs.2.2⟩
  · rintro pre x W ⟨hi, hl, hk⟩ hlen hm
    have hlt : w.heap.size + 1 < W.heap.size := (Array.getElem?_eq_some_iff.1 hl).1
    have hy := run_yield (P := P) (args := encs x) hl (by rw [hR]; exact hps x)
    rw [hR] at hy
    refine ⟨fn, _, assign, body, hy, roundIn_of_wpIn hfn (hassign _ x W _ ⟨_, run_beginRound hl (by rw [hR]), ?_⟩)⟩
    have hbusy : ({ R .ready with state := .busy } : Loop) = R .busy := by rw [hR]
    rw [hbusy]
    have hl2 : (W.putObj (w.heap.size + 1) (.loop (R .busy))).heap[w.heap.size + 1]? = some (.loop (R .busy)) := World.putObj_heap_same hlt
    have hk2 : (W.putObj (w.heap.size + 1) (.loop (R .busy))).heap[w.heap.size]? = some (.deferred (some [])) := (World.putObj_heap_other (by omega)).trans hk
    refine wpIn_mono (hbody _ pre x _ (hput _ _ _ hi) hlen (by simpa using hm)) ?_
    rintro e a3 W3 hp
    cases e with
    | normal =>
      obtain ⟨hk3, hkp, hi3⟩ := hp
      have hl3 := hk3.same _ _ hl2 rfl
      have hd3 := hk3.same _ _ hk2 rfl
      have hlt3 := (Array.getElem?_eq_some_iff.1 hl3).1
      have hend := run_endRound (P := P) none hl3
      have hready : ({ R .busy with state := if (none : Option Code).isNone then .ready else .done, pending := none } : Loop) = R .ready := by rw [hR]; rfl
      rw [hready] at hend
      exact ⟨_, _, hend, rfl, ⟨hput _ _ _ hi3, World.putObj_heap_same hlt3, (World.putObj_heap_other (by omega)).trans hd3⟩, hKt (hKt (hKb W _ hlt) hkp) (hKb W3 _ hlt3)⟩
    | _ => exact hp.elim
  · rintro e W2 ⟨⟨v, rfl⟩, hi, hl, hk⟩
    have hend := run_endLoop (P := P) hl (by rw [hR]; simp)
    rw [show (R .ready).pending = none by rw [hR]] at hend
    exact ⟨none, _, hend, hdone _ (hput _ _ _ hi) ((World.putObj_heap_other (by omega)).trans hk)⟩
end Go.Proofs.YtnipglclecafiaaDoor
