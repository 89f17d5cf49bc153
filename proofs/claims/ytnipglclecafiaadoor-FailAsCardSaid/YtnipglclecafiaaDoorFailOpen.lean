/- A list of texts that a law is handed, opened. -/
import Derived.Test.YtnipglclecafiaaDoorRow
import Derived.Test.YtnipglclecafiaaDoorOpen
import Derived.Test.YtnipglclecafiaaDoorFailAwake
set_option linter.unusedVariables false
set_option linter.unusedSimpArgs false
namespace Go.Proofs.YtnipglclecafiaaDoor
open Go.RowKit Go.ChangeShapes Go.WideShapes Go.Deep
section
variable {H : Type} {enc : TypeId × Value → H} {w : World} {base : Nat} {spare : Nat → Bool} {held : Bool}
theorem str_cell (n : Nat) (cs' : List Value) (y : DataW H × List MemPlace) (hl : cs'.length = 1) (ht : DataW.trod enc Tryd.prog w base spare held n 9 cs' = some y) : ∃ x, cs' = sC x ∧ True := by
  match cs', hl with
  | [c0], _ =>
    obtain ⟨k, e, _⟩ := DataW.trod_string Tryd.underlying9 ht
    exact ⟨k, by simpa [sC] using e, trivial⟩
theorem open_strs {v : Value} {d : DataW H} {ps : List MemPlace} {r : Reach} {b0 : Nat} (hv : Value.okWide Tryd.prog w r b0 22 v) (h : DataW.Trod enc Tryd.prog w base spare held 22 v d ps) :
    ∃ (A : Option Addr) (c : Nat) (l : List ByteArray), v = .slice A l.length c ∧ l.length ≤ c ∧ c ≤ maxLen ∧ RowAt sC 1 w A l := by
  obtain ⟨A, c, l, h1, h2, h3, h4, _⟩ := open_rows (P := Tryd.prog) sC 1 (fun _ _ => True) Tryd.underlying22 (by kernel_rfl) (by omega) str_cell hv h
  exact ⟨A, c, l, h1, h2, h3, h4⟩
end
end Go.Proofs.YtnipglclecafiaaDoor
