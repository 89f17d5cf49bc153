/- The list of acts that a law of the clock is handed, opened. -/
import Derived.Test.YtjnghgalniapjaaRow
import Derived.Test.YtjnghgalniapjaaOpen
import Derived.Test.YtjnghgalniapjaaClockDo
set_option linter.unusedVariables false
namespace Go.Proofs.Ytjnghgalniapjaa
open Go.RowKit Go.ChangeShapes Go.WideShapes Go.Deep

theorem open_acts {H : Type} {enc : TypeId × Value → H} {w : World} {base : Nat} {spare : Nat → Bool} {held : Bool} {v : Value} {d : DataW H} {ps : List MemPlace} {r : Reach} {b0 : Nat}
    (hv : Value.okWide Try.prog w r b0 22 v) (h : DataW.Trod enc Try.prog w base spare held 22 v d ps) :
    ∃ (A : Option Addr) (c : Nat) (l : List Act), v = .slice A l.length c ∧ l.length ≤ c ∧ c ≤ maxLen ∧ RowAt Act.cells 4 w A l := by
  obtain ⟨A, c, l, h1, h2, h3, h4, _⟩ := open_rows (P := Try.prog) Act.cells 4 (fun _ _ => True) Try.underlying22 (by kernel_rfl) (by omega) (fun n cs' y hl ht => by
    have hf := struct_cells (P := Try.prog) Try.underlying38 (by kernel_rfl) hl ht
    match cs', hl with
    | [c0, c1, c2, c3], _ =>
      obtain ⟨_, _, t0⟩ := hf 0 _ c0 rfl rfl
      obtain ⟨_, _, t1⟩ := hf 1 _ c1 rfl rfl
      obtain ⟨_, _, t2⟩ := hf 2 _ c2 rfl rfl
      obtain ⟨_, _, t3⟩ := hf 3 _ c3 rfl rfl
      obtain ⟨p, e0, _⟩ := DataW.trod_bool Try.underlying4 t0
      obtain ⟨k, e1, _⟩ := DataW.trod_string Try.underlying9 t1
      obtain ⟨n, e2, _⟩ := DataW.trod_int Try.underlying3 t2
      obtain ⟨u, e3, _⟩ := DataW.trod_string Try.underlying9 t3
      simp only [List.cons.injEq, and_true] at e0 e1 e2 e3
      subst e0 e1 e2 e3
      exact ⟨⟨p, k, n, u⟩, rfl, trivial⟩) hv h
  exact ⟨A, c, l, h1, h2, h3, h4⟩
end Go.Proofs.Ytjnghgalniapjaa
