/- Cells stored one behind the other, the new world a letter. -/
import Derived.Test.YtgljkgkmbfhgiaaDoorRec21
set_option linter.unusedVariables false
set_option linter.unusedSimpArgs false
namespace Go.Proofs.YtgljkgkmbfhgiaaDoor
open Go.RowKit

def setL (cs : Array Value) : Nat → List Value → Array Value
  | _, [] => cs
  | o, v :: us => setL (cs.setIfInBounds o v) (o + 1) us
theorem Blk.setL {g : Nat} {t : TypeId} : ∀ (us : List Value) (o : Nat) (w : World) (cs : Array Value), Blk w g t cs → Blk (w.setCells g o us) g t (setL cs o us)
  | [], _, _, _, h => h
  | v :: us, o, w, cs, h => Blk.setL us (o + 1) _ _ (h.set_ o v)
theorem RowAt.moved {α : Type} {f : α → List Value} {sz : Nat} {w w' : World} {g o : Nat} {l : List α} (h : RowAt f sz w (some ⟨g, o, none⟩) l) (he : w'.heap[g]? = w.heap[g]?) : RowAt f sz w' (some ⟨g, o, none⟩) l := by
  intro i x hx
  obtain ⟨b, off, e, hc⟩ := h i x hx
  cases e
  refine ⟨_, _, rfl, fun j u hu => ?_⟩
  have := hc j u hu
  simpa [World.cell?, he] using this
/-- A walk halted at an operation without a result. -/
def StopN (p : Prop) : Prop := p
theorem stopN {P : Program} {ops : Array Oper} {rest : List Oper} {a : Act} {w : World} {Q : Exit → Act → World → Prop} {a1 : Op} {a2 : TypeId} {a3 : String} {a4 : Array Edge} {a5 : Option (Nat × Bool)} (h : StopN (wpList P ops Q (⟨none, a1, a2, a3, a4, a5⟩ :: rest) a w)) : wpList P ops Q (⟨none, a1, a2, a3, a4, a5⟩ :: rest) a w := h
theorem stopLoad {P : Program} {ops : Array Oper} {rest : List Oper} {a : Act} {w : World} {Q : Exit → Act → World → Prop} {t : TypeId} {x : Operand} {a0 : Option Nat} {a2 : TypeId} {a3 : String} {a4 : Array Edge} {a5 : Option (Nat × Bool)} (h : StopN (wpList P ops Q (⟨a0, .load t x, a2, a3, a4, a5⟩ :: rest) a w)) : wpList P ops Q (⟨a0, .load t x, a2, a3, a4, a5⟩ :: rest) a w := h
theorem stopN_go {p : Prop} (h : p) : StopN p := h
section
variable {ops : Array Oper} {rest : List Oper} {op : Oper} {a : Act} {w : World} {Q : Exit → Act → World → Prop}
theorem wpList_store_row {t ty : TypeId} {b o : Nat} {us cs : Array Value} (h : Blk w b t cs) (hl : o + us.size ≤ cs.size) (hi : (Tryd.prog.info? ty).map (·.size) = some us.size) (h1 : us.all (·.oneCell') = true) (hgd : op.guard = none) (x y : Operand) (ho : op.op = .store ty x y) (hx : a.eval x = .pointer (some ⟨b, o, none⟩)) (hy : a.eval y = .agg us)
    (hK : ∀ w', Blk w' b t (setL cs o us.toList) → (∀ g, g ≠ b → w'.heap[g]? = w.heap[g]?) → w'.heap.size = w.heap.size → (∀ B c, B ≤ b → Below B c w → Below B c w') → wpList Tryd.prog ops Q rest (a.put op.dst undef) w') : wpList Tryd.prog ops Q (op :: rest) a w :=
  wpList_store_mid hgd ty x y ho b o us hx hy (fun j hj => ⟨by rw [h.cell]; rw [Array.getElem?_eq_getElem (by omega)]; rfl, h.frozen _⟩) hi h1
    (hK _ (h.setL _ _) (fun g hg => setCells_other b _ o w g hg) (setCells_size b _ o w) (fun B c hB hb => below_setCells hB _ o w hb))
theorem wpList_store_urlO {b : Nat} {u cs : Array Value} (h : Blk w b 29 cs) (hc : cs.size = 21) (hu : UrlOk u) (hgd : op.guard = none) (x y : Operand) (ho : op.op = .store 29 x y) (hx : a.eval x = .pointer (some ⟨b, 0, none⟩)) (hy : a.eval y = .agg u)
    (hK : ∀ w', Blk w' b 29 u → (∀ g, g ≠ b → w'.heap[g]? = w.heap[g]?) → w'.heap.size = w.heap.size → (∀ B c, B ≤ b → Below B c w → Below B c w') → wpList Tryd.prog ops Q rest (a.put op.dst undef) w') : wpList Tryd.prog ops Q (op :: rest) a w :=
  wpList_store_url h hc hu hgd x y ho hx hy (hK _ (h.setAll (by rw [hc, hu.1])) (fun g hg => setCells_other b _ 0 w g hg) (setCells_size b _ 0 w) (fun B c hB hb => below_setCells hB _ 0 w hb))
end
end Go.Proofs.YtgljkgkmbfhgiaaDoor
