/- stringslite.Index at one byte, in the print's form. -/
import Derived.Test.YtkeegffhfmhgfaaDoorShelf
import Derived.Test.YtkeegffhfmhgfaaDoorWMore
set_option linter.unusedVariables false
namespace Go.Proofs.YtkeegffhfmhgfaaDoor
open Go.RowKit Go.Proofs.YtkeegffhfmhgfaaDoorW.PrintWords

theorem drawn_of_eq {w w' : World} (h : w' = w) : Drawn0 w w' := ⟨⟨0, by rw [h]; rfl⟩⟩
def stringslite_Index.f (s sep : ByteArray) : Option Int :=
  if sep.size = 1 then some (Lib.indexByte s.data.toList (sep.data.toList.getD 0 0)) else none
theorem one_byte {s : ByteArray} (h : s.size = 1) : s = ⟨#[s.data.toList.getD 0 0]⟩ := by
  cases s with | mk a =>
  cases a with | mk l =>
  match l, h with
  | [x], _ => rfl
theorem stringslite_Index.calls (a0 a1 : ByteArray) (r : Int) (w : World) (h : stringslite_Index.f a0 a1 = some r) :
    Calls Tryd.prog 30 #[.string a0, .string a1] w fun e w' => e = .returned (.int .i64 r) ∧ Drawn0 w w' := by
  unfold stringslite_Index.f at h
  split at h
  · rename_i h1
    obtain rfl := Option.some.inj h
    rw [one_byte h1]
    refine (Tryd.stringslite_Index_one a0 _ w).mono ?_
    rintro e w' ⟨rfl, h⟩
    exact ⟨rfl, drawn_of_eq h⟩
  · cases h
end Go.Proofs.YtkeegffhfmhgfaaDoor
