/- A list of code points, opened. -/
import Derived.Test.YtbeibfhnbnmocaaDoorRow
import Derived.Test.YtbeibfhnbnmocaaDoorPunyEncode
set_option linter.unusedVariables false
set_option linter.unusedSimpArgs false
namespace Go.Proofs.YtbeibfhnbnmocaaDoor
open Go.RowKit Go.ChangeShapes Go.WideShapes Go.Deep

section
variable {H : Type} {enc : TypeId × Value → H} {w : World} {base : Nat} {spare : Nat → Bool} {held : Bool} {v : Value} {d : DataW H} {ps : List MemPlace} {r : Reach} {b0 : Nat}
set_option maxRecDepth 100000 in
theorem open_runes (hv : Value.okWide Tryd.prog w r b0 22 v) (h : DataW.Trod enc Tryd.prog w base spare held 22 v d ps) :
    ∃ (A : Option Addr) (c : Nat) (l : List Int), v = .slice A l.length c ∧ l.length ≤ c ∧ c ≤ maxLen ∧ RowAt iC 1 w A l := by
  obtain ⟨A, c, l, h1, h2, h3, h4, _⟩ := open_rows (P := Tryd.prog) iC 1 (fun _ _ => True) Tryd.underlying22 (by kernel_rfl) (by omega) (fun n cs' y hl ht => by
    obtain ⟨n0, e0, _, q0⟩ := DataW.trod_int Tryd.underlying21 ht
    exact ⟨n0, e0, trivial⟩) hv h
  exact ⟨A, c, l, h1, h2, h3, h4⟩
end
end Go.Proofs.YtbeibfhnbnmocaaDoor
