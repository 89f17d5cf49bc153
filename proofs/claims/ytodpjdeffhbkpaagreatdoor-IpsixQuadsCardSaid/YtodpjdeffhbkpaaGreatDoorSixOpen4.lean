/- The arguments of IpsixQuads, opened: four bytes. -/
import Derived.Test.YtodpjdeffhbkpaaGreatDoorSixOpen
set_option linter.unusedVariables false
set_option linter.unusedSimpArgs false
namespace Go.Proofs.YtodpjdeffhbkpaaGreatDoor
open Go.RowKit Go.ChangeShapes Go.WideShapes Go.Deep

section
variable {H : Type} {enc : TypeId × Value → H} {w : World} {base : Nat} {spare : Nat → Bool} {held : Bool} {v : Value} {d : DataW H} {ps : List MemPlace} {r : Reach} {b0 : Nat}
theorem wf_u8q {n : Int} (h : (Lit.int .u8 n).wf = true) : 0 ≤ n ∧ n ≤ 255 := by simp only [Lit.wf, Bool.and_eq_true, decide_eq_true_eq] at h; exact h
set_option maxRecDepth 100000 in
theorem open_four (hv : Value.okWide Tryz.prog w r b0 24 v) (h : DataW.Trod enc Tryz.prog w base spare held 24 v d ps) :
    ∃ n0 n1 n2 n3 : Nat, v = .agg #[.int .u8 n0, .int .u8 n1, .int .u8 n2, .int .u8 n3] ∧ n0 ≤ 255 ∧ n1 ≤ 255 ∧ n2 ≤ 255 ∧ n3 ≤ 255 := by
  have ht := Tryz.underlying24
  have hc : Tryz.prog.cellsOf 24 = 4 := by kernel_rfl
  have hce : Tryz.prog.cellsOf 5 = 1 := by kernel_rfl
  obtain ⟨cs, rfl, hsz⟩ : ∃ cs, v = .agg cs ∧ cs.size = 4 := by
    cases v <;> simp [Value.okWide, ht, hc] at hv
    exact ⟨_, rfl, hv.1⟩
  obtain ⟨l⟩ := cs
  obtain ⟨c0, c1, c2, c3, rfl⟩ : ∃ c0 c1 c2 c3, l = [c0, c1, c2, c3] := by
    match l, hsz with
    | [c0, c1, c2, c3], _ => exact ⟨c0, c1, c2, c3, rfl⟩
  obtain ⟨fuel, hf⟩ := h
  obtain ⟨xs, m, _, _, _, hl, hi⟩ := DataW.trod_array ht hf
  obtain ⟨y0, e0⟩ : ∃ y, xs[0]? = some y := ⟨xs[0]'(by omega), List.getElem?_eq_getElem _⟩
  have h0 := hi 0 (by omega)
  rw [hce, e0] at h0
  obtain ⟨n0, f0, _, q0⟩ := DataW.trod_int Tryz.underlying5 h0
  injection f0 with f0
  subst f0
  have q0 := wf_u8q q0
  obtain ⟨m0, rfl⟩ := Int.eq_ofNat_of_zero_le q0.1
  obtain ⟨y1, e1⟩ : ∃ y, xs[1]? = some y := ⟨xs[1]'(by omega), List.getElem?_eq_getElem _⟩
  have h1 := hi 1 (by omega)
  rw [hce, e1] at h1
  obtain ⟨n1, f1, _, q1⟩ := DataW.trod_int Tryz.underlying5 h1
  injection f1 with f1
  subst f1
  have q1 := wf_u8q q1
  obtain ⟨m1, rfl⟩ := Int.eq_ofNat_of_zero_le q1.1
  obtain ⟨y2, e2⟩ : ∃ y, xs[2]? = some y := ⟨xs[2]'(by omega), List.getElem?_eq_getElem _⟩
  have h2 := hi 2 (by omega)
  rw [hce, e2] at h2
  obtain ⟨n2, f2, _, q2⟩ := DataW.trod_int Tryz.underlying5 h2
  injection f2 with f2
  subst f2
  have q2 := wf_u8q q2
  obtain ⟨m2, rfl⟩ := Int.eq_ofNat_of_zero_le q2.1
  obtain ⟨y3, e3⟩ : ∃ y, xs[3]? = some y := ⟨xs[3]'(by omega), List.getElem?_eq_getElem _⟩
  have h3 := hi 3 (by omega)
  rw [hce, e3] at h3
  obtain ⟨n3, f3, _, q3⟩ := DataW.trod_int Tryz.underlying5 h3
  injection f3 with f3
  subst f3
  have q3 := wf_u8q q3
  obtain ⟨m3, rfl⟩ := Int.eq_ofNat_of_zero_le q3.1
  exact ⟨m0, m1, m2, m3, rfl, by omega, by omega, by omega, by omega⟩
end
end Go.Proofs.YtodpjdeffhbkpaaGreatDoor
