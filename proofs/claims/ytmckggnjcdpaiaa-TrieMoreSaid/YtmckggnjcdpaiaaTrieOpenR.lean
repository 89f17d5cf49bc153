/- A rule as an argument, opened. -/
import Derived.Test.YtmckggnjcdpaiaaTrieOpen
set_option linter.unusedVariables false
set_option linter.unusedSimpArgs false
namespace Go.Proofs.Ytmckggnjcdpaiaa
open Go.RowKit Go.ChangeShapes Go.WideShapes Go.Deep
section
variable {H : Type} {enc : TypeId × Value → H} {w : World} {base : Nat} {spare : Nat → Bool} {held : Bool} {v : Value} {d : DataW H} {ps : List MemPlace} {r : Reach} {b0 : Nat}
theorem open_rule (hv : Value.okWide Try.prog w r b0 34 v) (h : DataW.Trod enc Try.prog w base spare held 34 v d ps) :
    ∃ x : RulV, v = .agg #[.slice x.A x.r.labels.length x.c, .bool x.r.except] ∧ x.ok w := by
  obtain ⟨cs, rfl, hsz⟩ := okWide_struct Try.underlying34 hv
  rw [show Try.prog.cellsOf 34 = 2 by kernel_rfl] at hsz
  obtain ⟨fuel, hf⟩ := h
  obtain ⟨x, hx, hok⟩ := rule_cells fuel cs.toList _ (by simpa using hsz) hf
  refine ⟨x, ?_, hok⟩
  obtain ⟨l⟩ := cs
  have : l = [.slice x.A x.r.labels.length x.c, .bool x.r.except] := hx
  rw [this]
end
end Go.Proofs.Ytmckggnjcdpaiaa
