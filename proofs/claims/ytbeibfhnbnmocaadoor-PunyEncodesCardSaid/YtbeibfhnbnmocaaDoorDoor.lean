/- What the listed package variable gives a walk: errors.errorType holds the handle of the type error. -/
import Derived.Test.YtbeibfhnbnmocaaDoorErrCode
import Derived.Test.YtbeibfhnbnmocaaDoorRows
import Derived.LaidLaws
import Derived.LaidHandle
import Derived.RowKitTokens
import Derived.Stop.Joined
import Derived.ChangeSame
import Derived.ChangeVars
set_option linter.unusedVariables false
namespace Go.Proofs.YtbeibfhnbnmocaaDoor
open Go.RowKit

theorem door_var : Tryd.prog.globalNamed "errors.errorType" = some 0 := by kernel_rfl
theorem door_rtype : (Tryd.prog.cutTypes.find? (·.1 == "internal/reflectlite.rtype")).map (·.2) = some 90 := by kernel_rfl
theorem door_row : ((List.range 137).filter fun t => Tryd.prog.rowNamed t [101, 114, 114, 111, 114]) = [25] := by kernel_rfl
theorem door_size : Tryd.prog.types.size = 137 := by kernel_rfl
theorem errType_of {L : List (String × DataW Unit)} {W : World} (h : handlesMet Tryd.prog L W) (hm : ("errors.errorType", Rows.laid_errors_errorType) ∈ L) : ErrType W := by
  obtain ⟨name, u, ty, e1, e2, e3, e4, e5⟩ := h _ hm
  have en : name = [101, 114, 114, 111, 114] := (Option.some.inj e1).symm
  subst en
  obtain rfl := Option.some.inj (door_rtype.symm.trans e2)
  have hm : ty ∈ (List.range 137).filter fun t => Tryd.prog.rowNamed t [101, 114, 114, 111, 114] := List.mem_filter.2 ⟨List.mem_range.2 (by rw [← door_size]; exact e3), e4⟩
  rw [door_row] at hm
  obtain rfl := List.mem_singleton.1 hm
  have hh : typeHandle Tryd.prog 25 = .pointer (some ⟨2, 25, none⟩) := by kernel_rfl
  rw [hh] at e5
  simpa [ErrType] using World.var?_cell door_var e5 0

/-- A world that meets the condition: the settled one, the variable's cell laid. -/
noncomputable def laidWorld (os : Os) : World :=
  let w0 := World.holding Tryd.prog os ⟨#[], #[], []⟩
  { w0 with heap := w0.heap.modify 0 fun
      | .cells _ t frozen => .cells #[.iface 90 (.agg #[.pointer (some ⟨2, 25, none⟩)])] t frozen
      | o => o }
theorem laidWorld_met (os : Os) (args : Array Value) : laidMetH Tryd.prog [("errors.errorType", Rows.laid_errors_errorType)] ((laidWorld os).forCall (fun _ _ => 0) ⟨#[], args, []⟩).memory :=
  laidMetH_of_parts (laidMet_nil _ _) (by kernel_rfl)
theorem laid_err {W : World} (h : laidMetH Tryd.prog [("errors.errorType", Rows.laid_errors_errorType)] W) : ErrType W := by
  have h' : laidMet Tryd.prog [] W ∧ handlesMet Tryd.prog [("errors.errorType", Rows.laid_errors_errorType)] W := h
  exact errType_of h'.2 (List.mem_singleton.2 rfl)
end Go.Proofs.YtbeibfhnbnmocaaDoor
