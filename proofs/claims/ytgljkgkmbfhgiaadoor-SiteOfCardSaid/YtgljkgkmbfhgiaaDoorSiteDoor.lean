/- What the listed package variables give a walk of sites: the tables; of the world's shape: bytealg.MaxLen. -/
import Derived.Test.YtgljkgkmbfhgiaaDoorHostWorld
import Derived.Test.YtgljkgkmbfhgiaaDoorRows
import Derived.Test.YtgljkgkmbfhgiaaDoorShape
import Derived.LaidLaws
import Derived.LaidHandle
import Derived.LaidMore
import Derived.Lib.LaidTab
import Derived.Lib.TrailingZeros
import Derived.Stop.LaidErr
import Derived.Stop.Joined
import Derived.RowKitTokens
set_option linter.unusedVariables false
namespace Go.Proofs.YtgljkgkmbfhgiaaDoor
open Go.RowKit

abbrev laidL : List (String × DataW Unit) := [("math/bits.deBruijn32tab", Rows.laid_math_bits_deBruijn32tab), ("math/bits.deBruijn64tab", Rows.laid_math_bits_deBruijn64tab), ("internal/strconv.uint64pow10", Rows.laid_internal_strconv_uint64pow10), ("unicode/utf8.acceptRanges", Rows.laid_unicode_utf8_acceptRanges), ("unicode/utf8.first", Rows.laid_unicode_utf8_first)]
theorem dg_tz : Tryd.prog.globalNamed "math/bits.deBruijn64tab" = some 3 := by kernel_rfl
theorem dt_tz : (Tryd.prog.globals[3]?).map (·.type) = some 139 := by kernel_rfl
theorem dt_tab : (Tryd.prog.globals[1]?).map (·.type) = some 128 := by kernel_rfl
theorem d_cells3 : Tryd.prog.cellsOf 117 = 1 := by kernel_rfl
theorem d_cells4 : Tryd.prog.cellsOf 128 = 20 := by kernel_rfl
theorem d_cells5 : Tryd.prog.cellsOf 5 = 1 := by kernel_rfl
theorem d_cells6 : Tryd.prog.cellsOf 139 = 64 := by kernel_rfl
theorem d_tab : (Rows.laid_internal_strconv_uint64pow10 : DataW Unit) = Lib.tabData .u64 Lib.pow10Tab := by kernel_rfl
def tzTab : List Int := Lib.deBruijn64tab.map fun (n : Nat) => (n : Int)
theorem d_tab2 : (Rows.laid_math_bits_deBruijn64tab : DataW Unit) = Lib.tabData .u8 tzTab := by kernel_rfl

/-- The door's own heap, the pinned table laid. -/
noncomputable def firstCells : Array Value := (Go.Pinned.utf8FirstZ.map fun (n : Nat) => Value.int .u8 n).toArray
noncomputable def laidWorld (os : Os) : World :=
  let w0 := World.doorLaid Tryd.prog 34 os
  { w0 with heap := w0.heap.modify 4 fun
      | .cells _ t fz => .cells firstCells t fz
      | o => o }
theorem laidWorld_met (os : Os) (args : Array Value) : laidMetH Tryd.prog laidL ((laidWorld os).forCall (fun _ _ => 0) ⟨#[], args, []⟩).memory :=
  laidMetH_of_parts3 (fuel := 8) (laidMet_of_run' 8 (by kernel_rfl) (by kernel_rfl)) (by kernel_rfl) (by kernel_rfl)

theorem fw_of {W : World} (h : laidMetH Tryd.prog laidL W) (hs : W.ShapedOpen Tryd.prog) : FW W := by
  have h' : laidMet Tryd.prog laidL W := h
  have h2 := h'.tail
  have h3 := h2.tail
  rw [d_tab] at h3
  rw [d_tab2] at h2
  have ht : Lib.TabIs Tryd.prog W "math/bits.deBruijn64tab" .u8 tzTab := Lib.tabIs_of_head dg_tz dt_tz Tryd.underlying139 Tryd.underlying5 d_cells5 d_cells6 h2
  refine ⟨Lib.tabIs_of_head fw_tab dt_tab Tryd.underlying128 Tryd.underlying117 d_cells3 d_cells4 h3, Tryd.laysM146.s1_3 W hs, ?_⟩
  have := World.var?_cell dg_tz ht 15
  simpa [tzTab, Lib.deBruijn64tab] using this
end Go.Proofs.YtgljkgkmbfhgiaaDoor
