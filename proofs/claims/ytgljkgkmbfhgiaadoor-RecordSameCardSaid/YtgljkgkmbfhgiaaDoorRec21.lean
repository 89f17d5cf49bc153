/- A URL's cells, loaded and stored whole. -/
import Derived.Test.YtgljkgkmbfhgiaaDoorRecText
import Derived.Deep.MidRow
set_option linter.unusedVariables false
set_option linter.unusedSimpArgs false
namespace Go.Proofs.YtgljkgkmbfhgiaaDoor
open Go.RowKit

def UrlOk (u : Array Value) : Prop := u.size = 21 ∧ u.all (·.oneCell') = true
theorem Blk.setFrom {g : Nat} {t : TypeId} : ∀ (us : List Value) (o : Nat) (w : World) (cs : Array Value), Blk w g t cs → o + us.length = cs.size → Blk (w.setCells g o us) g t (cs.toList.take o ++ us).toArray
  | [], o, w, cs, h, hl => by
    have : cs.toList.take o = cs.toList := List.take_of_length_le (by simp at hl; simp; omega)
    rw [this]
    simpa [World.setCells] using h
  | v :: us, o, w, cs, h, hl => by
    have ih := Blk.setFrom us (o + 1) _ _ (h.set_ o v) (by simp at hl ⊢; omega)
    have ho : o < cs.toList.length := by simp at hl ⊢; omega
    have e : (cs.setIfInBounds o v).toList.take (o + 1) = cs.toList.take o ++ [v] := by
      rw [Array.toList_setIfInBounds, List.take_set, List.take_succ_eq_append_getElem (by simpa using ho), List.set_append_right _ _ (by simp; omega)]
      have h3 : o - (List.take o cs.toList).length = 0 := by rw [List.length_take, Nat.min_eq_left (Nat.le_of_lt ho)]; omega
      rw [h3]
      rfl
    rw [e] at ih
    simpa [World.setCells] using ih
theorem Blk.setAll {w : World} {g : Nat} {t : TypeId} {cs us : Array Value} (h : Blk w g t cs) (hl : us.size = cs.size) : Blk (w.setCells g 0 us.toList) g t us := by
  have := Blk.setFrom us.toList 0 w cs h (by simp [hl])
  simpa using this
theorem setCells_other (g : Nat) : ∀ (us : List Value) (o : Nat) (w : World) (i : Nat), i ≠ g → (w.setCells g o us).heap[i]? = w.heap[i]?
  | [], _, _, _, _ => rfl
  | v :: us, o, w, i, h => by
    have := setCells_other g us (o + 1) (w.setCell ⟨g, o, none⟩ v) i h
    exact this.trans (Below.heap_setCell w ⟨g, o, none⟩ v i h)
theorem setCells_size (g : Nat) : ∀ (us : List Value) (o : Nat) (w : World), (w.setCells g o us).heap.size = w.heap.size
  | [], _, _ => rfl
  | v :: us, o, w => by have := setCells_size g us (o + 1) (w.setCell ⟨g, o, none⟩ v); rw [World.setCells, this]; simp [World.setCell]
theorem below_setCells {B : Nat} {a : World} {g : Nat} (hg : B ≤ g) : ∀ (us : List Value) (o : Nat) (w : World), Below B a w → Below B a (w.setCells g o us)
  | [], _, _, h => h
  | v :: us, o, w, h => below_setCells hg us (o + 1) _ (h.setCell (p := ⟨g, o, none⟩) hg v)
theorem Blk.there {w : World} {g : Nat} {t : TypeId} {cs : Array Value} (h : Blk w g t cs) : w.there g 0 cs.size := fun j hj => ⟨by rw [h.cell]; simp [hj], h.frozen _⟩
theorem info_url : (Tryd.prog.info? 29).map (·.size) = some 21 := by kernel_rfl
theorem results_cell_row1 {P : Program} {fn : Func} {p : Tmp} {ty : TypeId} (h : fn.results = #[.cell p ty]) (tmps : Array Value) (w : World) (g : Nat) (t : TypeId) (cs : Array Value) (fr : Nat × Nat) (d : TypeDesc)
    (hp : tmps.getD p undef = .pointer (some ⟨g, 0, none⟩)) (hg : w.heap[g]? = some (.cells cs t fr))
    (hu : P.underlying ty = some d) (hd : (match d with | .struct _ | .array _ _ => true | _ => false) = true) (hi : (P.info? ty).map (·.size) = some cs.size) :
    (results fn tmps).run P w = .ok (.agg cs) w := by
  have hp' : tmps[p]?.getD undef = .pointer (some ⟨g, 0, none⟩) := by simpa using hp
  simp [results, h, hp', asAddr, run_loadVar_row w g t ty cs fr d hg hu hd hi]
section
variable {ops : Array Oper} {rest : List Oper} {op : Oper} {a : Act} {w : World} {Q : Exit → Act → World → Prop}
theorem wpList_load_url {b o : Nat} {u : Array Value} (h : w.rangeAt b o u.toList) (hu : u.size = 21) (hgd : op.guard = none) (x : Operand) (ho : op.op = .load 29 x) (hx : a.eval x = .pointer (some ⟨b, o, none⟩))
    (hK : wpList Tryd.prog ops Q rest (a.put op.dst (.agg u)) w) : wpList Tryd.prog ops Q (op :: rest) a w :=
  wpList_load_mid hgd 29 x ho b o hx u.toList _ h Tryd.underlying29 rfl (by rw [info_url]; simp [hu]) (by simpa using hK)
theorem wpList_store_url {b : Nat} {u cs : Array Value} (h : Blk w b 29 cs) (hc : cs.size = 21) (hu : UrlOk u) (hgd : op.guard = none) (x y : Operand) (ho : op.op = .store 29 x y) (hx : a.eval x = .pointer (some ⟨b, 0, none⟩)) (hy : a.eval y = .agg u)
    (hK : wpList Tryd.prog ops Q rest (a.put op.dst undef) (w.setCells b 0 u.toList)) : wpList Tryd.prog ops Q (op :: rest) a w :=
  wpList_store_mid hgd 29 x y ho b 0 u hx hy (by rw [hu.1, ← hc]; exact h.there) (by rw [info_url, hu.1]) hu.2 hK
theorem wpList_load_urlG {b o : Nat} {u : Array Value} (h : w.rangeAt b o u.toList) (hu : u.size = 21) (x : Operand) (ho : op.op = .load 29 x) (hx : a.eval x = .pointer (some ⟨b, o, none⟩))
    (hw : Region.wanted op (yielded ops a.tmps) = true) (hK : wpList Tryd.prog ops Q rest (a.put op.dst (.agg u)) w) : wpList Tryd.prog ops Q (op :: rest) a w :=
  wpList_step fun K hK' => by
    rw [if_pos hw]
    exact wp_load_mid 29 x ho b o hx u.toList _ h Tryd.underlying29 rfl (by rw [info_url]; simp [hu]) (hK' _ _ (by simpa using hK))
end
theorem Blk.range {w : World} {g : Nat} {t : TypeId} {cs : Array Value} (h : Blk w g t cs) : w.rangeAt g 0 cs.toList := fun j v hv => by
  rw [Nat.zero_add, h.cell]
  simpa using hv
theorem Blk.other {w : World} {g g' : Nat} {t : TypeId} {cs : Array Value} (h : Blk w g t cs) (hne : g ≠ g') (us : List Value) : Blk (w.setCells g' 0 us) g t cs := (setCells_other g' us 0 w g hne).trans h
theorem urlok (u : Rec.UrlV) (A : Option Addr) (c : Nat) : UrlOk (u.cells A c).toArray := ⟨rfl, by simp [Rec.UrlV.cells, Rec.HostV.cells, Value.oneCell']⟩
end Go.Proofs.YtgljkgkmbfhgiaaDoor
