/- Texts cut at a byte, in plain lists. -/
import Derived.Test.YtkeegffhfmhgfaaDoorPureLib
import Derived.Test.YtkeegffhfmhgfaaDoorStrHand
import Derived.Test.YtkeegffhfmhgfaaDoorPKeyx4
set_option linter.unusedVariables false
set_option linter.unusedSimpArgs false
namespace Go.Proofs.YtkeegffhfmhgfaaDoor.Plain
open Go.RowKit Go.Proofs.YtkeegffhfmhgfaaDoorW.PrintWords Go.Proofs.YtkeegffhfmhgfaaDoor.PKey Go.Proofs.YtkeegffhfmhgfaaDoor

theorem indexByte_at {c : UInt8} : ∀ {l : List UInt8} {i : Nat}, l[i]? = some c → (∀ (j : Nat) (d : UInt8), j < i → l[j]? = some d → d ≠ c) → Lib.indexByte l c = i
  | [], i, h, _ => by simp at h
  | b :: l, 0, h, _ => by
    obtain rfl : b = c := by simpa using h
    simp [Lib.indexByte]
  | b :: l, i + 1, h, hn => by
    have hb : b ≠ c := hn 0 b (by omega) rfl
    have ih := indexByte_at (l := l) (i := i) (c := c) (by simpa using h) (fun j d hj hd => hn (j + 1) d (by omega) (by simpa using hd))
    simp only [Lib.indexByte, ih]
    rw [if_neg (by simpa using hb), if_neg (by simp)]
    simp
theorem indexByte_none {c : UInt8} : ∀ {l : List UInt8}, (∀ d ∈ l, d ≠ c) → Lib.indexByte l c = -1
  | [], _ => rfl
  | b :: l, h => by
    have ih := indexByte_none (l := l) (c := c) (fun d hd => h d (by simp [hd]))
    have hb : b ≠ c := h b (by simp)
    simp only [Lib.indexByte, ih]
    rw [if_neg (by simpa using hb)]
    rfl
/-- A text cut at the first byte c. -/
theorem cut_found (s : ByteArray) (c : UInt8) (i : Nat) (hs : s.size ≤ 140737488351232) (h : s.data.toList[i]? = some c) (hn : ∀ (j : Nat) (d : UInt8), j < i → s.data.toList[j]? = some d → d ≠ c) :
    strings_Cut.f s ⟨#[c]⟩ = some (s.extract 0 i, s.extract (i + 1) s.size, true) := by
  have hi : i < s.size := by have := (List.getElem?_eq_some_iff.1 h).1; simpa using this
  have hix : stringslite_Index.f s ⟨#[c]⟩ = some (i : Int) := by
    unfold stringslite_Index.f
    rw [if_pos (show (⟨#[c]⟩ : ByteArray).size = 1 from rfl)]
    exact congrArg some (indexByte_at h hn)
  have h1 : (((⟨#[c]⟩ : ByteArray).size : Nat) : Int) = 1 := rfl
  have hw : wrap64 ((i : Int) + 1) = (i : Int) + 1 := wrap_in (by omega) (by omega)
  unfold strings_Cut.f stringslite_Cut.f
  rw [hix]
  simp only [Option.bind_some]
  rw [if_pos (by omega), if_pos (by omega), if_pos (by omega), h1, hw, if_pos (by omega), if_pos (by omega)]
  simp only [Option.bind_some, Int.toNat_natCast]
  rw [show ((i : Int) + 1).toNat = i + 1 by omega]
theorem cut_none (s : ByteArray) (c : UInt8) (hn : ∀ d ∈ s.data.toList, d ≠ c) : strings_Cut.f s ⟨#[c]⟩ = some (s, ⟨#[]⟩, false) := by
  have hix : stringslite_Index.f s ⟨#[c]⟩ = some (-1) := by
    unfold stringslite_Index.f
    rw [if_pos (show (⟨#[c]⟩ : ByteArray).size = 1 from rfl)]
    exact congrArg some (indexByte_none hn)
  unfold strings_Cut.f stringslite_Cut.f
  rw [hix]
  simp only [Option.bind_some]
  rw [if_neg (by omega)]
  rfl
/-- Where a byte first is, if anywhere. -/
theorem first_or_none (s : ByteArray) (c : UInt8) : (∃ i : Nat, s.data.toList[i]? = some c ∧ ∀ (j : Nat) (d : UInt8), j < i → s.data.toList[j]? = some d → d ≠ c) ∨ ∀ d ∈ s.data.toList, d ≠ c := by
  generalize s.data.toList = l
  induction l with
  | nil => right; intro d hd; cases hd
  | cons b l ih =>
    by_cases hb : b = c
    · left; exact ⟨0, by simp [hb], fun j d hj => by omega⟩
    · rcases ih with ⟨i, h1, h2⟩ | h
      · left
        refine ⟨i + 1, by simpa using h1, fun j d hj hd => ?_⟩
        cases j with
        | zero => simp at hd; exact hd ▸ hb
        | succ j => exact h2 j d (by omega) (by simpa using hd)
      · right
        intro d hd
        rcases List.mem_cons.1 hd with rfl | hd
        · exact hb
        · exact h d hd
end Go.Proofs.YtkeegffhfmhgfaaDoor.Plain
