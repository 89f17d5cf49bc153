/- What the listed package variables give a walk: the table of powers of ten, and the two errors. -/
import Derived.Test.YtkeegffhfmhgfaaDoorKeyHand
import Derived.Test.YtkeegffhfmhgfaaDoorRows
import Derived.LaidLaws
import Derived.LaidHandle
import Derived.LaidMore
import Derived.Lib.LaidTab
import Derived.Stop.LaidErr
import Derived.Stop.Joined
import Derived.RowKitTokens
set_option linter.unusedVariables false
namespace Go.Proofs.YtkeegffhfmhgfaaDoor
open Go.RowKit

abbrev laidL : List (String × DataW Unit) := [("math/bits.deBruijn32tab", Rows.laid_math_bits_deBruijn32tab), ("math/bits.deBruijn64tab", Rows.laid_math_bits_deBruijn64tab), ("internal/strconv.uint64pow10", Rows.laid_internal_strconv_uint64pow10), ("strconv.ErrRange", Rows.laid_strconv_ErrRange), ("strconv.ErrSyntax", Rows.laid_strconv_ErrSyntax)]
theorem dg_syn : Tryd.prog.globalNamed "strconv.ErrSyntax" = some 1 := by kernel_rfl
theorem dg_rng : Tryd.prog.globalNamed "strconv.ErrRange" = some 2 := by kernel_rfl
theorem dt_syn : (Tryd.prog.globals[1]?).map (·.type) = some 43 := by kernel_rfl
theorem dt_rng : (Tryd.prog.globals[2]?).map (·.type) = some 43 := by kernel_rfl
theorem dt_tab : (Tryd.prog.globals[3]?).map (·.type) = some 72 := by kernel_rfl
theorem d_cells1 : Tryd.prog.cellsOf 83 = 1 := by kernel_rfl
theorem d_cells2 : Tryd.prog.cellsOf 9 = 1 := by kernel_rfl
theorem d_cells3 : Tryd.prog.cellsOf 24 = 1 := by kernel_rfl
theorem d_cells4 : Tryd.prog.cellsOf 72 = 20 := by kernel_rfl
theorem d_star : "*" ++ "errors.errorString" = "*errors.errorString" := by decide
theorem d_row (u : TypeId) (h : Tryd.prog.typeName? 3 u = some "*errors.errorString") : u = 81 :=
  typeName_ptr_named (nm := "errors.errorString") (by rw [d_star]; kernel_rfl) (by kernel_rfl) (by decide) u (by rw [d_star]; exact h)
theorem d_tab : (Rows.laid_internal_strconv_uint64pow10 : DataW Unit) = Lib.tabData .u64 Lib.pow10Tab := by kernel_rfl

/-- The door's own heap meets the condition. -/
noncomputable def laidWorld (os : Os) : World := World.doorLaid Tryd.prog 62 os
theorem laidWorld_met (os : Os) (args : Array Value) : laidMetH Tryd.prog laidL ((laidWorld os).forCall (fun _ _ => 0) ⟨#[], args, []⟩).memory :=
  laidMetH_of_parts3 (fuel := 8) (laidMet_of_run' 8 (by kernel_rfl) (by kernel_rfl)) (by kernel_rfl) (by kernel_rfl)

theorem kw_of_laid {W : World} (h : laidMetH Tryd.prog laidL W) : KW W := by
  have hL : laidMet Tryd.prog laidL W := h
  have h3 := hL.tail.tail
  have h4 := h3.tail
  have h5 := h4.tail
  rw [d_tab] at h3
  obtain ⟨a0, s0, hv0, -, -, -⟩ := laid_sentinel h4 dg_rng dt_rng Tryd.underlying43 d_row Tryd.underlying81 Tryd.underlying83 rfl rfl Tryd.underlying9 d_cells1 d_cells2
  obtain ⟨a1, s1, hv1, -, -, -⟩ := laid_sentinel h5 dg_syn dt_syn Tryd.underlying43 d_row Tryd.underlying81 Tryd.underlying83 rfl rfl Tryd.underlying9 d_cells1 d_cells2
  refine ⟨Lib.tabIs_of_head kw_tab dt_tab Tryd.underlying72 Tryd.underlying24 d_cells3 d_cells4 h3, ⟨81, .pointer (some a1), ?_⟩, ⟨81, .pointer (some a0), ?_⟩⟩
  · have := World.var?_cell dg_syn hv1 0
    simpa using this
  · have := World.var?_cell dg_rng hv0 0
    simpa using this
end Go.Proofs.YtkeegffhfmhgfaaDoor
