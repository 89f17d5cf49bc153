/- A handle as an argument, opened. -/
import Derived.Test.YtlpjjbkpoaohnaaRow
import Derived.Test.YtlpjjbkpoaohnaaOpen
set_option linter.unusedVariables false
set_option linter.unusedSimpArgs false
namespace Go.Proofs.Ytlpjjbkpoaohnaa
open Go.RowKit Go.ChangeShapes Go.WideShapes Go.Deep

section
variable {H : Type} {enc : TypeId × Value → H} {w : World} {base : Nat} {spare : Nat → Bool} {held : Bool} {v : Value} {d : DataW H} {ps : List MemPlace} {r : Reach} {b0 : Nat}
set_option maxRecDepth 100000 in
theorem open_handle (hv : Value.okWide Try.prog w r b0 36 v) (h : DataW.Trod enc Try.prog w base spare held 36 v d ps) :
    ∃ a b : Int, v = .agg #[.int .i64 a, .int .u64 b] := by
  have ht := Try.underlying36
  have hc : Try.prog.cellsOf 36 = 2 := by kernel_rfl
  obtain ⟨cs, rfl, hsz⟩ : ∃ cs, v = .agg cs ∧ cs.size = 2 := by
    cases v <;> simp [Value.okWide, ht, hc] at hv
    exact ⟨_, rfl, hv.1⟩
  obtain ⟨l⟩ := cs
  obtain ⟨a, b, rfl⟩ : ∃ a b, l = [a, b] := by
    match l, hsz with
    | [a, b], _ => exact ⟨a, b, rfl⟩
  obtain ⟨fuel, hf⟩ := h
  have hcell := struct_cells (P := Try.prog) ht (by kernel_rfl) (by rfl) hf
  obtain ⟨_, _, t0⟩ := hcell 0 _ a rfl rfl
  obtain ⟨_, _, t1⟩ := hcell 1 _ b rfl rfl
  obtain ⟨n0, f0, _, _⟩ := DataW.trod_int Try.underlying3 t0
  obtain ⟨n1, f1, _, _⟩ := DataW.trod_int Try.underlying34 t1
  injection f0 with f0
  injection f1 with f1
  subst f0 f1
  exact ⟨n0, n1, rfl⟩
end
end Go.Proofs.Ytlpjjbkpoaohnaa
