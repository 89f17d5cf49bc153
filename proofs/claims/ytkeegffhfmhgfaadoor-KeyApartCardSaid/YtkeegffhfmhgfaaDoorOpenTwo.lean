/- Arguments that are arrays of two texts, of two bools, opened. -/
import Derived.Test.YtkeegffhfmhgfaaDoorBase
import Derived.ProofKit
import Derived.OpenShut
set_option linter.unusedVariables false
set_option linter.unusedSimpArgs false
namespace Go.Proofs.YtkeegffhfmhgfaaDoor
open Go.RowKit Go.ChangeShapes Go.WideShapes
section
variable {H : Type} {enc : TypeId × Value → H} {P : Program} {w : World} {base : Nat} {spare : Nat → Bool} {held : Bool}
theorem open_two {t e : TypeId} {v : Value} {d : DataW H} {ps : List MemPlace} {r : Reach} {b0 : Nat} (ht : P.underlying t = some (.array 2 e)) (hc : P.cellsOf t = 2) (hce : P.cellsOf e = 1)
    (hv : Value.okWide P w r b0 t v) (h : DataW.Trod enc P w base spare held t v d ps) :
    ∃ (a b : Value) (m : Nat) (y z : DataW H × List MemPlace), v = .agg #[a, b] ∧ DataW.trod enc P w base spare held m e [a] = some y ∧ DataW.trod enc P w base spare held m e [b] = some z := by
  obtain ⟨cs, rfl, hsz⟩ : ∃ cs, v = .agg cs ∧ cs.size = 2 := by
    cases v <;> simp [Value.okWide, ht, hc] at hv
    exact ⟨_, rfl, hv.1⟩
  obtain ⟨l⟩ := cs
  obtain ⟨a, b, rfl⟩ : ∃ a b, l = [a, b] := by
    match l, hsz with
    | [a, b], _ => exact ⟨a, b, rfl⟩
  obtain ⟨fuel, hf⟩ := h
  obtain ⟨xs, m, _, _, _, hl, hi⟩ := DataW.trod_array ht hf
  have h0 := hi 0 (by omega)
  have h1 := hi 1 (by omega)
  rw [hce] at h0 h1
  cases e0 : xs[0]? with
  | none => rw [List.getElem?_eq_none_iff] at e0; omega
  | some y =>
    cases e1 : xs[1]? with
    | none => rw [List.getElem?_eq_none_iff] at e1; omega
    | some z =>
      rw [e0] at h0
      rw [e1] at h1
      exact ⟨a, b, m, y, z, rfl, h0, h1⟩
theorem open_texts {t e : TypeId} {v : Value} {d : DataW H} {ps : List MemPlace} {r : Reach} {b0 : Nat} (ht : P.underlying t = some (.array 2 e)) (he : P.underlying e = some .string) (hc : P.cellsOf t = 2) (hce : P.cellsOf e = 1)
    (hv : Value.okWide P w r b0 t v) (h : DataW.Trod enc P w base spare held t v d ps) :
    ∃ a b : ByteArray, v = .agg #[.string a, .string b] := by
  obtain ⟨a, b, m, y, z, rfl, h0, h1⟩ := open_two ht hc hce hv h
  obtain ⟨x, e0, _⟩ := DataW.trod_string he h0
  obtain ⟨y, e1, _⟩ := DataW.trod_string he h1
  injection e0 with e0
  injection e1 with e1
  subst e0 e1
  exact ⟨x, y, rfl⟩
theorem open_bools {t e : TypeId} {v : Value} {d : DataW H} {ps : List MemPlace} {r : Reach} {b0 : Nat} (ht : P.underlying t = some (.array 2 e)) (he : P.underlying e = some .bool) (hc : P.cellsOf t = 2) (hce : P.cellsOf e = 1)
    (hv : Value.okWide P w r b0 t v) (h : DataW.Trod enc P w base spare held t v d ps) :
    ∃ a b : Bool, v = .agg #[.bool a, .bool b] := by
  obtain ⟨a, b, m, y, z, rfl, h0, h1⟩ := open_two ht hc hce hv h
  obtain ⟨x, e0, _⟩ := DataW.trod_bool he h0
  obtain ⟨y, e1, _⟩ := DataW.trod_bool he h1
  injection e0 with e0
  injection e1 with e1
  subst e0 e1
  exact ⟨x, y, rfl⟩
end
end Go.Proofs.YtkeegffhfmhgfaaDoor
