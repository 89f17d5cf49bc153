/- The arguments of the laws of ipsix, opened: an address. -/
import Derived.Test.YtodpjdeffhbkpaaGreatDoorRow
import Derived.Test.YtodpjdeffhbkpaaGreatDoorSixText
import Derived.Stop.Joined
set_option linter.unusedVariables false
set_option linter.unusedSimpArgs false
namespace Go.Proofs.YtodpjdeffhbkpaaGreatDoor
open Go.RowKit Go.ChangeShapes Go.WideShapes Go.Deep

section
variable {H : Type} {enc : TypeId × Value → H} {w : World} {base : Nat} {spare : Nat → Bool} {held : Bool} {v : Value} {d : DataW H} {ps : List MemPlace} {r : Reach} {b0 : Nat}
theorem wf_u16 {n : Int} (h : (Lit.int .u16 n).wf = true) : 0 ≤ n ∧ n ≤ 65535 := by simp only [Lit.wf, Bool.and_eq_true, decide_eq_true_eq] at h; exact h
set_option maxRecDepth 100000 in
theorem open_adr (hv : Value.okWide Tryz.prog w r b0 23 v) (h : DataW.Trod enc Tryz.prog w base spare held 23 v d ps) :
    ∃ a : List Nat, v = .agg (cellsA a).toArray ∧ a.length = 8 ∧ ∀ n ∈ a, n < 65536 := by
  have ht := Tryz.underlying23
  have hc : Tryz.prog.cellsOf 23 = 8 := by kernel_rfl
  have hce : Tryz.prog.cellsOf 22 = 1 := by kernel_rfl
  obtain ⟨cs, rfl, hsz⟩ : ∃ cs, v = .agg cs ∧ cs.size = 8 := by
    cases v <;> simp [Value.okWide, ht, hc] at hv
    exact ⟨_, rfl, hv.1⟩
  obtain ⟨l⟩ := cs
  obtain ⟨c0, c1, c2, c3, c4, c5, c6, c7, rfl⟩ : ∃ c0 c1 c2 c3 c4 c5 c6 c7, l = [c0, c1, c2, c3, c4, c5, c6, c7] := by
    match l, hsz with
    | [c0, c1, c2, c3, c4, c5, c6, c7], _ => exact ⟨c0, c1, c2, c3, c4, c5, c6, c7, rfl⟩
  obtain ⟨fuel, hf⟩ := h
  obtain ⟨xs, m, _, _, _, hl, hi⟩ := DataW.trod_array ht hf
  obtain ⟨y0, e0⟩ : ∃ y, xs[0]? = some y := ⟨xs[0]'(by omega), List.getElem?_eq_getElem _⟩
  have h0 := hi 0 (by omega)
  rw [hce, e0] at h0
  obtain ⟨n0, f0, _, q0⟩ := DataW.trod_int Tryz.underlying22 h0
  injection f0 with f0
  subst f0
  have q0 := wf_u16 q0
  obtain ⟨m0, rfl⟩ := Int.eq_ofNat_of_zero_le q0.1
  obtain ⟨y1, e1⟩ : ∃ y, xs[1]? = some y := ⟨xs[1]'(by omega), List.getElem?_eq_getElem _⟩
  have h1 := hi 1 (by omega)
  rw [hce, e1] at h1
  obtain ⟨n1, f1, _, q1⟩ := DataW.trod_int Tryz.underlying22 h1
  injection f1 with f1
  subst f1
  have q1 := wf_u16 q1
  obtain ⟨m1, rfl⟩ := Int.eq_ofNat_of_zero_le q1.1
  obtain ⟨y2, e2⟩ : ∃ y, xs[2]? = some y := ⟨xs[2]'(by omega), List.getElem?_eq_getElem _⟩
  have h2 := hi 2 (by omega)
  rw [hce, e2] at h2
  obtain ⟨n2, f2, _, q2⟩ := DataW.trod_int Tryz.underlying22 h2
  injection f2 with f2
  subst f2
  have q2 := wf_u16 q2
  obtain ⟨m2, rfl⟩ := Int.eq_ofNat_of_zero_le q2.1
  obtain ⟨y3, e3⟩ : ∃ y, xs[3]? = some y := ⟨xs[3]'(by omega), List.getElem?_eq_getElem _⟩
  have h3 := hi 3 (by omega)
  rw [hce, e3] at h3
  obtain ⟨n3, f3, _, q3⟩ := DataW.trod_int Tryz.underlying22 h3
  injection f3 with f3
  subst f3
  have q3 := wf_u16 q3
  obtain ⟨m3, rfl⟩ := Int.eq_ofNat_of_zero_le q3.1
  obtain ⟨y4, e4⟩ : ∃ y, xs[4]? = some y := ⟨xs[4]'(by omega), List.getElem?_eq_getElem _⟩
  have h4 := hi 4 (by omega)
  rw [hce, e4] at h4
  obtain ⟨n4, f4, _, q4⟩ := DataW.trod_int Tryz.underlying22 h4
  injection f4 with f4
  subst f4
  have q4 := wf_u16 q4
  obtain ⟨m4, rfl⟩ := Int.eq_ofNat_of_zero_le q4.1
  obtain ⟨y5, e5⟩ : ∃ y, xs[5]? = some y := ⟨xs[5]'(by omega), List.getElem?_eq_getElem _⟩
  have h5 := hi 5 (by omega)
  rw [hce, e5] at h5
  obtain ⟨n5, f5, _, q5⟩ := DataW.trod_int Tryz.underlying22 h5
  injection f5 with f5
  subst f5
  have q5 := wf_u16 q5
  obtain ⟨m5, rfl⟩ := Int.eq_ofNat_of_zero_le q5.1
  obtain ⟨y6, e6⟩ : ∃ y, xs[6]? = some y := ⟨xs[6]'(by omega), List.getElem?_eq_getElem _⟩
  have h6 := hi 6 (by omega)
  rw [hce, e6] at h6
  obtain ⟨n6, f6, _, q6⟩ := DataW.trod_int Tryz.underlying22 h6
  injection f6 with f6
  subst f6
  have q6 := wf_u16 q6
  obtain ⟨m6, rfl⟩ := Int.eq_ofNat_of_zero_le q6.1
  obtain ⟨y7, e7⟩ : ∃ y, xs[7]? = some y := ⟨xs[7]'(by omega), List.getElem?_eq_getElem _⟩
  have h7 := hi 7 (by omega)
  rw [hce, e7] at h7
  obtain ⟨n7, f7, _, q7⟩ := DataW.trod_int Tryz.underlying22 h7
  injection f7 with f7
  subst f7
  have q7 := wf_u16 q7
  obtain ⟨m7, rfl⟩ := Int.eq_ofNat_of_zero_le q7.1
  refine ⟨[m0, m1, m2, m3, m4, m5, m6, m7], ?_, rfl, fun n hn => ?_⟩
  · rw [cells_eight]
  · simp only [List.mem_cons, List.not_mem_nil, or_false] at hn
    omega
end
end Go.Proofs.YtodpjdeffhbkpaaGreatDoor
