/- The arguments of KeyApart, opened. -/
import Derived.Test.YtkeegffhfmhgfaaDoorOpenTwo
import Derived.Test.YtkeegffhfmhgfaaDoorProg
set_option linter.unusedVariables false
set_option linter.unusedSimpArgs false
namespace Go.Proofs.YtkeegffhfmhgfaaDoor
open Go.RowKit Go.ChangeShapes Go.WideShapes
section
variable {H : Type} {enc : TypeId × Value → H} {w : World} {base : Nat} {spare : Nat → Bool} {held : Bool}
theorem apart_texts {v : Value} {d : DataW H} {ps : List MemPlace} {r : Reach} {b0 : Nat} (hv : Value.okWide Tryd.prog w r b0 32 v) (h : DataW.Trod enc Tryd.prog w base spare held 32 v d ps) : ∃ a b : ByteArray, v = .agg #[.string a, .string b] :=
  open_texts Tryd.underlying32 Tryd.underlying9 (by kernel_rfl) (by kernel_rfl) hv h
theorem apart_bools {v : Value} {d : DataW H} {ps : List MemPlace} {r : Reach} {b0 : Nat} (hv : Value.okWide Tryd.prog w r b0 33 v) (h : DataW.Trod enc Tryd.prog w base spare held 33 v d ps) : ∃ a b : Bool, v = .agg #[.bool a, .bool b] :=
  open_bools Tryd.underlying33 Tryd.underlying4 (by kernel_rfl) (by kernel_rfl) hv h
end
end Go.Proofs.YtkeegffhfmhgfaaDoor
