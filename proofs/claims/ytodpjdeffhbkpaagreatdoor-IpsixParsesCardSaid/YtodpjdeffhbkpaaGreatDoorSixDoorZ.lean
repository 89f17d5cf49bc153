/- What the listed package variables give a walk of ipsix that asks errors.As, too: errors.errorType, the table of trailing noughts, the two errors; of the world's shape: bytealg.MaxLen. -/
import Derived.Test.YtodpjdeffhbkpaaGreatDoorSixFormat
import Derived.Test.YtodpjdeffhbkpaaGreatDoorErrCode
import Derived.Test.YtodpjdeffhbkpaaGreatDoorRows
import Derived.Test.YtodpjdeffhbkpaaGreatDoorShape
import Derived.LaidLaws
import Derived.LaidHandle
import Derived.LaidMore
import Derived.Lib.LaidTab
import Derived.Lib.TrailingZeros
import Derived.Stop.LaidErr
import Derived.Stop.Joined
import Derived.RowKitTokens
set_option linter.unusedVariables false
namespace Go.Proofs.YtodpjdeffhbkpaaGreatDoor
open Go.RowKit

abbrev laidL : List (String × DataW Unit) := [("math/bits.deBruijn32tab", Rows.laid_math_bits_deBruijn32tab), ("math/bits.deBruijn64tab", Rows.laid_math_bits_deBruijn64tab), ("internal/strconv.uint64pow10", Rows.laid_internal_strconv_uint64pow10), ("unicode/utf8.acceptRanges", Rows.laid_unicode_utf8_acceptRanges), ("errors.errorType", Rows.laid_errors_errorType), ("strconv.ErrRange", Rows.laid_strconv_ErrRange), ("strconv.ErrSyntax", Rows.laid_strconv_ErrSyntax), ("unicode/utf8.first", Rows.laid_unicode_utf8_first)]
abbrev laidD : List (String × DataW Unit) := [("math/bits.deBruijn32tab", Rows.laid_math_bits_deBruijn32tab), ("math/bits.deBruijn64tab", Rows.laid_math_bits_deBruijn64tab), ("internal/strconv.uint64pow10", Rows.laid_internal_strconv_uint64pow10), ("unicode/utf8.acceptRanges", Rows.laid_unicode_utf8_acceptRanges), ("strconv.ErrRange", Rows.laid_strconv_ErrRange), ("strconv.ErrSyntax", Rows.laid_strconv_ErrSyntax), ("unicode/utf8.first", Rows.laid_unicode_utf8_first)]
theorem dg_syn : Tryz.prog.globalNamed "strconv.ErrSyntax" = some 3 := by kernel_rfl
theorem dg_rng : Tryz.prog.globalNamed "strconv.ErrRange" = some 4 := by kernel_rfl
theorem dg_tz : Tryz.prog.globalNamed "math/bits.deBruijn64tab" = some 8 := by kernel_rfl
theorem dt_syn : (Tryz.prog.globals[3]?).map (·.type) = some 29 := by kernel_rfl
theorem dt_rng : (Tryz.prog.globals[4]?).map (·.type) = some 29 := by kernel_rfl
theorem dt_tz : (Tryz.prog.globals[8]?).map (·.type) = some 168 := by kernel_rfl
theorem d_cells1 : Tryz.prog.cellsOf 165 = 1 := by kernel_rfl
theorem d_cells2 : Tryz.prog.cellsOf 9 = 1 := by kernel_rfl
theorem d_cells3 : Tryz.prog.cellsOf 5 = 1 := by kernel_rfl
theorem d_cells4 : Tryz.prog.cellsOf 168 = 64 := by kernel_rfl
theorem d_star : "*" ++ "errors.errorString" = "*errors.errorString" := by decide
theorem d_row (u : TypeId) (h : Tryz.prog.typeName? 3 u = some "*errors.errorString") : u = 163 :=
  typeName_ptr_named (nm := "errors.errorString") (by rw [d_star]; kernel_rfl) (by kernel_rfl) (by decide) u (by rw [d_star]; exact h)
def tzTab : List Int := Lib.deBruijn64tab.map fun (n : Nat) => (n : Int)
theorem d_tab : (Rows.laid_math_bits_deBruijn64tab : DataW Unit) = Lib.tabData .u8 tzTab := by kernel_rfl

/-- The door's own heap, the pinned table laid. -/
noncomputable def firstCells : Array Value := (Go.Pinned.utf8FirstZ.map fun (n : Nat) => Value.int .u8 n).toArray
noncomputable def laidWorld (os : Os) : World :=
  let w0 := World.doorLaid Tryz.prog 79 os
  { w0 with heap := w0.heap.modify 5 fun
      | .cells _ t fz => .cells firstCells t fz
      | o => o }
theorem laidWorld_met (os : Os) (args : Array Value) : laidMetH Tryz.prog laidL ((laidWorld os).forCall (fun _ _ => 0) ⟨#[], args, []⟩).memory :=
  laidMetH_of_parts3 (fuel := 8) (laidMet_of_run' 8 (by kernel_rfl) (by kernel_rfl)) (by kernel_rfl) (by kernel_rfl)

theorem fw_of {W : World} (h : laidMetH Tryz.prog laidL W) (hs : W.ShapedOpen Tryz.prog) : FW W := by
  have h' : laidMet Tryz.prog laidD W ∧ handlesMet Tryz.prog [("errors.errorType", Rows.laid_errors_errorType)] W := h
  have h2 := h'.1.tail
  have h5 := h2.tail.tail.tail
  have h6 := h5.tail
  rw [d_tab] at h2
  obtain ⟨a0, s0, hv0, -, -, -⟩ := laid_sentinel h5 dg_rng dt_rng Tryz.underlying29 d_row Tryz.underlying163 Tryz.underlying165 rfl rfl Tryz.underlying9 d_cells1 d_cells2
  obtain ⟨a1, s1, hv1, -, -, -⟩ := laid_sentinel h6 dg_syn dt_syn Tryz.underlying29 d_row Tryz.underlying163 Tryz.underlying165 rfl rfl Tryz.underlying9 d_cells1 d_cells2
  have ht : Lib.TabIs Tryz.prog W "math/bits.deBruijn64tab" .u8 tzTab := Lib.tabIs_of_head dg_tz dt_tz Tryz.underlying168 Tryz.underlying5 d_cells3 d_cells4 h2
  refine ⟨Tryz.laysM146.s1_3 W hs, ?_, ⟨163, .pointer (some a1), ?_⟩, ⟨163, .pointer (some a0), ?_⟩⟩
  · have := World.var?_cell dg_tz ht 15
    simpa [tzTab, Lib.deBruijn64tab] using this
  · have := World.var?_cell dg_syn hv1 0
    simpa using this
  · have := World.var?_cell dg_rng hv0 0
    simpa using this
theorem door_var : Tryz.prog.globalNamed "errors.errorType" = some 0 := by kernel_rfl
theorem door_rtype : (Tryz.prog.cutTypes.find? (·.1 == "internal/reflectlite.rtype")).map (·.2) = some 86 := by kernel_rfl
theorem door_row : ((List.range 196).filter fun t => Tryz.prog.rowNamed t [101, 114, 114, 111, 114]) = [29] := by kernel_rfl
theorem door_size : Tryz.prog.types.size = 196 := by kernel_rfl
theorem err_of {W : World} (h : laidMetH Tryz.prog laidL W) : ErrType W := by
  have h' : laidMet Tryz.prog laidD W ∧ handlesMet Tryz.prog [("errors.errorType", Rows.laid_errors_errorType)] W := h
  obtain ⟨name, u, ty, e1, e2, e3, e4, e5⟩ := h'.2 _ (List.mem_singleton.2 rfl)
  have en : name = [101, 114, 114, 111, 114] := (Option.some.inj e1).symm
  subst en
  obtain rfl := Option.some.inj (door_rtype.symm.trans e2)
  have hm : ty ∈ (List.range 196).filter fun t => Tryz.prog.rowNamed t [101, 114, 114, 111, 114] := List.mem_filter.2 ⟨List.mem_range.2 (by rw [← door_size]; exact e3), e4⟩
  rw [door_row] at hm
  obtain rfl := List.mem_singleton.1 hm
  have hh : typeHandle Tryz.prog 29 = .pointer (some ⟨9, 29, none⟩) := by kernel_rfl
  rw [hh] at e5
  simpa [ErrType] using World.var?_cell door_var e5 0
end Go.Proofs.YtodpjdeffhbkpaaGreatDoor
