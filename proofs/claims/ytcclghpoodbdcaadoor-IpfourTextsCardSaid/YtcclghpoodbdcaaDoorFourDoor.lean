/- What the listed package variables give a walk of ipfour: the table of powers of ten; of the world's shape: bytealg.MaxLen. -/
import Derived.Test.YtcclghpoodbdcaaDoorFourWorld
import Derived.Test.YtcclghpoodbdcaaDoorRows
import Derived.Test.YtcclghpoodbdcaaDoorShape
import Derived.LaidLaws
import Derived.LaidHandle
import Derived.LaidMore
import Derived.Lib.LaidTab
import Derived.Stop.LaidErr
import Derived.Stop.Joined
import Derived.RowKitTokens
set_option linter.unusedVariables false
namespace Go.Proofs.YtcclghpoodbdcaaDoor
open Go.RowKit

abbrev laidL : List (String × DataW Unit) := [("math/bits.deBruijn32tab", Rows.laid_math_bits_deBruijn32tab), ("math/bits.deBruijn64tab", Rows.laid_math_bits_deBruijn64tab), ("internal/strconv.uint64pow10", Rows.laid_internal_strconv_uint64pow10), ("unicode/utf8.acceptRanges", Rows.laid_unicode_utf8_acceptRanges), ("unicode/utf8.first", Rows.laid_unicode_utf8_first)]
theorem dt_tab : (Tryd.prog.globals[0]?).map (·.type) = some 100 := by kernel_rfl
theorem d_cells3 : Tryd.prog.cellsOf 87 = 1 := by kernel_rfl
theorem d_cells4 : Tryd.prog.cellsOf 100 = 20 := by kernel_rfl
theorem d_tab : (Rows.laid_internal_strconv_uint64pow10 : DataW Unit) = Lib.tabData .u64 Lib.pow10Tab := by kernel_rfl

/-- The door's own heap, the pinned table laid. -/
noncomputable def firstCells : Array Value := (Go.Pinned.utf8FirstZ.map fun (n : Nat) => Value.int .u8 n).toArray
noncomputable def laidWorld (os : Os) : World :=
  let w0 := World.doorLaid Tryd.prog 34 os
  { w0 with heap := w0.heap.modify 2 fun
      | .cells _ t fz => .cells firstCells t fz
      | o => o }
theorem laidWorld_met (os : Os) (args : Array Value) : laidMetH Tryd.prog laidL ((laidWorld os).forCall (fun _ _ => 0) ⟨#[], args, []⟩).memory :=
  laidMetH_of_parts3 (fuel := 8) (laidMet_of_run' 8 (by kernel_rfl) (by kernel_rfl)) (by kernel_rfl) (by kernel_rfl)

theorem fw_of {W : World} (h : laidMetH Tryd.prog laidL W) (hs : W.ShapedOpen Tryd.prog) : FW W := by
  have h' : laidMet Tryd.prog laidL W := h
  have h3 := h'.tail.tail
  rw [d_tab] at h3
  exact ⟨Lib.tabIs_of_head fw_tab dt_tab Tryd.underlying100 Tryd.underlying87 d_cells3 d_cells4 h3, Tryd.laysM146.s1_3 W hs⟩

end Go.Proofs.YtcclghpoodbdcaaDoor
