/- What the listed package variables give a walk of ipfour: the table of powers of ten, errors.errorType; of the world's shape: bytealg.MaxLen. -/
import Derived.Test.YtcclghpoodbdcaaGreatDoorFourWorld
import Derived.Test.YtcclghpoodbdcaaGreatDoorErrCode
import Derived.Test.YtcclghpoodbdcaaGreatDoorRows
import Derived.Test.YtcclghpoodbdcaaGreatDoorShape
import Derived.LaidLaws
import Derived.LaidHandle
import Derived.LaidMore
import Derived.Lib.LaidTab
import Derived.Stop.LaidErr
import Derived.Stop.Joined
import Derived.RowKitTokens
set_option linter.unusedVariables false
namespace Go.Proofs.YtcclghpoodbdcaaGreatDoor
open Go.RowKit

abbrev laidL : List (String × DataW Unit) := [("math/bits.deBruijn32tab", Rows.laid_math_bits_deBruijn32tab), ("math/bits.deBruijn64tab", Rows.laid_math_bits_deBruijn64tab), ("internal/strconv.uint64pow10", Rows.laid_internal_strconv_uint64pow10), ("unicode/utf8.acceptRanges", Rows.laid_unicode_utf8_acceptRanges), ("errors.errorType", Rows.laid_errors_errorType), ("unicode/utf8.first", Rows.laid_unicode_utf8_first)]
abbrev laidD : List (String × DataW Unit) := [("math/bits.deBruijn32tab", Rows.laid_math_bits_deBruijn32tab), ("math/bits.deBruijn64tab", Rows.laid_math_bits_deBruijn64tab), ("internal/strconv.uint64pow10", Rows.laid_internal_strconv_uint64pow10), ("unicode/utf8.acceptRanges", Rows.laid_unicode_utf8_acceptRanges), ("unicode/utf8.first", Rows.laid_unicode_utf8_first)]
theorem dt_tab : (Tryz.prog.globals[3]?).map (·.type) = some 126 := by kernel_rfl
theorem d_cells3 : Tryz.prog.cellsOf 110 = 1 := by kernel_rfl
theorem d_cells4 : Tryz.prog.cellsOf 126 = 20 := by kernel_rfl
theorem d_tab : (Rows.laid_internal_strconv_uint64pow10 : DataW Unit) = Lib.tabData .u64 Lib.pow10Tab := by kernel_rfl

/-- The door's own heap, the pinned table laid. -/
noncomputable def firstCells : Array Value := (Go.Pinned.utf8FirstZ.map fun (n : Nat) => Value.int .u8 n).toArray
noncomputable def laidWorld (os : Os) : World :=
  let w0 := World.doorLaid Tryz.prog 41 os
  { w0 with heap := w0.heap.modify 1 fun
      | .cells _ t fz => .cells firstCells t fz
      | o => o }
theorem laidWorld_met (os : Os) (args : Array Value) : laidMetH Tryz.prog laidL ((laidWorld os).forCall (fun _ _ => 0) ⟨#[], args, []⟩).memory :=
  laidMetH_of_parts3 (fuel := 8) (laidMet_of_run' 8 (by kernel_rfl) (by kernel_rfl)) (by kernel_rfl) (by kernel_rfl)

theorem fw_of {W : World} (h : laidMetH Tryz.prog laidL W) (hs : W.ShapedOpen Tryz.prog) : FW W := by
  have h' : laidMet Tryz.prog laidD W ∧ handlesMet Tryz.prog [("errors.errorType", Rows.laid_errors_errorType)] W := h
  have h3 := h'.1.tail.tail
  rw [d_tab] at h3
  exact ⟨Lib.tabIs_of_head fw_tab dt_tab Tryz.underlying126 Tryz.underlying110 d_cells3 d_cells4 h3, Tryz.laysM146.s1_3 W hs⟩

theorem door_var : Tryz.prog.globalNamed "errors.errorType" = some 0 := by kernel_rfl
theorem door_rtype : (Tryz.prog.cutTypes.find? (·.1 == "internal/reflectlite.rtype")).map (·.2) = some 84 := by kernel_rfl
theorem door_row : ((List.range 162).filter fun t => Tryz.prog.rowNamed t [101, 114, 114, 111, 114]) = [25] := by kernel_rfl
theorem door_size : Tryz.prog.types.size = 162 := by kernel_rfl
theorem err_of {W : World} (h : laidMetH Tryz.prog laidL W) : ErrType W := by
  have h' : laidMet Tryz.prog laidD W ∧ handlesMet Tryz.prog [("errors.errorType", Rows.laid_errors_errorType)] W := h
  obtain ⟨name, u, ty, e1, e2, e3, e4, e5⟩ := h'.2 _ (List.mem_singleton.2 rfl)
  have en : name = [101, 114, 114, 111, 114] := (Option.some.inj e1).symm
  subst en
  obtain rfl := Option.some.inj (door_rtype.symm.trans e2)
  have hm : ty ∈ (List.range 162).filter fun t => Tryz.prog.rowNamed t [101, 114, 114, 111, 114] := List.mem_filter.2 ⟨List.mem_range.2 (by rw [← door_size]; exact e3), e4⟩
  rw [door_row] at hm
  obtain rfl := List.mem_singleton.1 hm
  have hh : typeHandle Tryz.prog 25 = .pointer (some ⟨7, 25, none⟩) := by kernel_rfl
  rw [hh] at e5
  simpa [ErrType] using World.var?_cell door_var e5 0
end Go.Proofs.YtcclghpoodbdcaaGreatDoor
