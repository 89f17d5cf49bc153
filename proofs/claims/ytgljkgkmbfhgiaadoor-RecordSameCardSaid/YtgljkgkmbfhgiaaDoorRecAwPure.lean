/- What the law's awake names: three URLs, their texts. -/
import Derived.Test.YtgljkgkmbfhgiaaDoorRec21
import Derived.Test.YtgljkgkmbfhgiaaDoorRecHostEq
set_option linter.unusedVariables false
set_option linter.unusedSimpArgs false
namespace Go.Proofs.YtgljkgkmbfhgiaaDoor
open Go.RowKit Four Six Rec

def awU : UrlV := ⟨⟨#[104, 116, 116, 112]⟩, ⟨#[]⟩, ⟨#[]⟩, ⟨2, ⟨#[97]⟩, 0, 0, 0, 0, 0, 0, 0, 0, 0⟩, 8080, false, [⟨#[120]⟩], false, ⟨#[]⟩, true, ⟨#[]⟩⟩
def awV : UrlV := ⟨⟨#[121]⟩, ⟨#[]⟩, ⟨#[]⟩, ⟨0, ⟨#[]⟩, 0, 0, 0, 0, 0, 0, 0, 0, 0⟩, -1, false, [⟨#[]⟩, ⟨#[122]⟩], false, ⟨#[]⟩, false, ⟨#[]⟩⟩
def awQ : UrlV := ⟨⟨#[]⟩, ⟨#[]⟩, ⟨#[]⟩, ⟨0, ⟨#[]⟩, 0, 0, 0, 0, 0, 0, 0, 0, 0⟩, 0, true, [⟨#[113]⟩], false, ⟨#[]⟩, false, ⟨#[]⟩⟩
theorem dec_8080 : Lib.itoa 8080 = [56, 48, 56, 48] := by
  rw [itoa_pos (by omega), show (8080 : Int).toNat = 8080 from rfl, dec_ge (by decide), dec_ge (by decide), dec_ge (by decide), dec_lt (by decide)]
  rfl
theorem emptyB : ((⟨#[]⟩ : ByteArray).toList.isEmpty) = true := by rw [ByteArray.toList_eq]; rfl
theorem aw_text1 (bare : Bool) : mkB (textU awU bare) = if bare = true then ⟨#[104, 116, 116, 112, 58, 47, 47, 97, 58, 56, 48, 56, 48, 47, 120]⟩ else ⟨#[104, 116, 116, 112, 58, 47, 47, 97, 58, 56, 48, 56, 48, 47, 120, 35]⟩ := by
  cases bare <;> simp [textU, awU, hosted, dotted, authT, when, hostT, pathU, pathT, numT, isEmpty, dec_8080, emptyB, mkB]
theorem aw_text2 : mkB (textU awV true) = ⟨#[121, 58, 47, 46, 47, 47, 122]⟩ := by
  simp [textU, awV, hosted, dotted, when, pathU, pathT, isEmpty, emptyB, mkB]
theorem aw_path : mkB (pathU awQ) = ⟨#[113]⟩ := by
  simp [pathU, awQ, mkB]
theorem aw_ok : awU.ok ∧ awV.ok := ⟨⟨⟨by decide, by decide, by decide, by decide⟩, by decide, by decide⟩, ⟨⟨by decide, by decide, by decide, by decide⟩, by decide, by decide⟩⟩
theorem aw_short : awU.short ∧ awV.short ∧ awQ.short := ⟨(UrlV.few_iff _).1 (by decide), (UrlV.few_iff _).1 (by decide), (UrlV.few_iff _).1 (by decide)⟩
end Go.Proofs.YtgljkgkmbfhgiaaDoor
