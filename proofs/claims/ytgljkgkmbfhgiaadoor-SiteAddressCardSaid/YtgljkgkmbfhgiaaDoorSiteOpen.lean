/- Rules and origins that a law is handed, opened. -/
import Derived.Test.YtgljkgkmbfhgiaaDoorRecOpen
import Derived.Test.YtgljkgkmbfhgiaaDoorSiteAwake
set_option linter.unusedVariables false
set_option linter.unusedSimpArgs false
set_option maxRecDepth 100000
namespace Go.Proofs.YtgljkgkmbfhgiaaDoor
open Go.RowKit Go.ChangeShapes Go.WideShapes Go.Deep Rec

section
variable {H : Type} {enc : TypeId × Value → H} {w : World} {base : Nat} {spare : Nat → Bool} {held : Bool}
theorem rule_cellsS (n : Nat) (cs' : List Value) (y : DataW H × List MemPlace) (hl : cs'.length = 2) (ht : DataW.trod enc Tryd.prog w base spare held n 67 cs' = some y) : ∃ x, cs' = RulV.cells x ∧ RulV.ok w x := by
  have hf := struct_cells (P := Tryd.prog) Tryd.underlying67 (by kernel_rfl) hl ht
  match cs', hl with
  | [c0, c1], _ =>
    obtain ⟨_, _, t0⟩ := hf 0 _ c0 rfl rfl
    obtain ⟨_, _, t1⟩ := hf 1 _ c1 rfl rfl
    obtain ⟨A, c, l, e0, h1, h2, h3, _⟩ := open_rows_csS strC 1 (fun _ _ => True) Tryd.underlying27 (by kernel_rfl) (by omega) str_cellS t0
    obtain ⟨p, e1, _⟩ := DataW.trod_bool Tryd.underlying4 t1
    simp only [List.cons.injEq, and_true] at e1
    subst e0 e1
    exact ⟨⟨A, c, ⟨l, p⟩⟩, rfl, h1, h2, h3⟩
theorem open_rulesS {v : Value} {d : DataW H} {ps : List MemPlace} {r : Reach} {b0 : Nat} (hv : Value.okWide Tryd.prog w r b0 40 v) (h : DataW.Trod enc Tryd.prog w base spare held 40 v d ps) :
    ∃ (A : Option Addr) (c : Nat) (l : List RulV), v = .slice A l.length c ∧ l.length ≤ c ∧ c ≤ maxLen ∧ RowAt RulV.cells 2 w A l ∧ ∀ x ∈ l, x.ok w :=
  open_rows (P := Tryd.prog) RulV.cells 2 RulV.ok Tryd.underlying40 (by kernel_rfl) (by omega) rule_cellsS hv h
theorem cells_org : Tryd.prog.cellsOf 49 = 14 := by kernel_rfl
theorem org_cells (n : Nat) (cs : List Value) (y : DataW H × List MemPlace) (hlen : cs.length = 14) (ht : DataW.trod enc Tryd.prog w base spare held n 49 cs = some y) : ∃ o : OrgV, cs = o.cells ∧ o.h.ok := by
  obtain ⟨xs, m, _, _, _, hxl, hf⟩ := DataW.trod_struct Tryd.underlying49 ht
  have hxl : xs.length = 4 := hxl
  match cs, hlen with
  | [c0, c1, c2, c3, c4, c5, c6, c7, c8, c9, c10, c11, c12, c13], _ =>
    obtain ⟨z0, ez0⟩ : ∃ y, xs[0]? = some y := ⟨xs[0]'(by omega), List.getElem?_eq_getElem _⟩
    have g0 := hf 0 _ rfl
    rw [ez0] at g0
    have g0 : DataW.trod enc Tryd.prog w base spare held m 4 (([c0, c1, c2, c3, c4, c5, c6, c7, c8, c9, c10, c11, c12, c13].drop 0).take (Tryd.prog.cellsOf 4)) = some z0 := g0
    rw [cells_bool] at g0
    obtain ⟨z1, ez1⟩ : ∃ y, xs[1]? = some y := ⟨xs[1]'(by omega), List.getElem?_eq_getElem _⟩
    have g1 := hf 1 _ rfl
    rw [ez1] at g1
    have g1 : DataW.trod enc Tryd.prog w base spare held m 9 (([c0, c1, c2, c3, c4, c5, c6, c7, c8, c9, c10, c11, c12, c13].drop 1).take (Tryd.prog.cellsOf 9)) = some z1 := g1
    rw [cells_str] at g1
    obtain ⟨z2, ez2⟩ : ∃ y, xs[2]? = some y := ⟨xs[2]'(by omega), List.getElem?_eq_getElem _⟩
    have g2 := hf 2 _ rfl
    rw [ez2] at g2
    have g2 : DataW.trod enc Tryd.prog w base spare held m 26 (([c0, c1, c2, c3, c4, c5, c6, c7, c8, c9, c10, c11, c12, c13].drop 2).take (Tryd.prog.cellsOf 26)) = some z2 := g2
    rw [cells_host] at g2
    obtain ⟨z3, ez3⟩ : ∃ y, xs[3]? = some y := ⟨xs[3]'(by omega), List.getElem?_eq_getElem _⟩
    have g3 := hf 3 _ rfl
    rw [ez3] at g3
    have g3 : DataW.trod enc Tryd.prog w base spare held m 3 (([c0, c1, c2, c3, c4, c5, c6, c7, c8, c9, c10, c11, c12, c13].drop 13).take (Tryd.prog.cellsOf 3)) = some z3 := g3
    rw [cells_int] at g3
    obtain ⟨s0, e0, _⟩ := DataW.trod_bool Tryd.underlying4 g0
    obtain ⟨s1, e1, _⟩ := DataW.trod_string Tryd.underlying9 g1
    obtain ⟨s3, e3, _, _⟩ := DataW.trod_int Tryd.underlying3 g3
    obtain ⟨h, e2, hh⟩ := host_cells m _ z2 rfl g2
    simp only [List.drop_zero, List.take_succ_cons, List.take_zero, List.drop_succ_cons, List.cons.injEq, and_true] at e0 e1 e3
    simp only [List.drop_zero, List.take_succ_cons, List.take_zero, List.drop_succ_cons] at e2
    subst e0 e1 e3
    refine ⟨⟨s0, s1, h, s3⟩, ?_, hh⟩
    show _ = [.bool s0, .string s1] ++ h.cells ++ _
    rw [← e2]
    rfl
theorem open_org {v : Value} {d : DataW H} {ps : List MemPlace} {r : Reach} {b0 : Nat} (hv : Value.okWide Tryd.prog w r b0 49 v) (h : DataW.Trod enc Tryd.prog w base spare held 49 v d ps) :
    ∃ (o : OrgV), v = .agg o.cells.toArray ∧ o.h.ok := by
  obtain ⟨cs, rfl, hsz⟩ : ∃ cs, v = .agg cs ∧ cs.size = 14 := by
    cases v <;> simp [Value.okWide, Tryd.underlying49, cells_org] at hv
    exact ⟨_, rfl, hv.1⟩
  obtain ⟨l⟩ := cs
  obtain ⟨fuel, hf⟩ := h
  obtain ⟨u, e, h1⟩ := org_cells fuel l _ hsz hf
  exact ⟨u, by rw [e], h1⟩
end
end Go.Proofs.YtgljkgkmbfhgiaaDoor
