/- The arguments of the laws of slots, opened: two bytes, a list of acts, a handle. -/
import Derived.Test.YtkmmnmicmjohgaaDoorRow
import Derived.Test.YtkmmnmicmjohgaaDoorSlotsRunSt
import Derived.Stop.Joined
set_option linter.unusedVariables false
set_option linter.unusedSimpArgs false
namespace Go.Proofs.YtkmmnmicmjohgaaDoor
open Go.RowKit Go.ChangeShapes Go.WideShapes Go.Deep

section
variable {H : Type} {enc : TypeId × Value → H} {w : World} {base : Nat} {spare : Nat → Bool} {held : Bool} {v : Value} {d : DataW H} {ps : List MemPlace} {r : Reach} {b0 : Nat}
theorem wf_u8 {n : Int} (h : (Lit.int .u8 n).wf = true) : 0 ≤ n ∧ n ≤ 255 := by simp only [Lit.wf, Bool.and_eq_true, decide_eq_true_eq] at h; exact h
set_option maxRecDepth 100000 in
theorem open_actsD (hv : Value.okWide Tryd.prog w r b0 23 v) (h : DataW.Trod enc Tryd.prog w base spare held 23 v d ps) :
    ∃ (A : Option Addr) (c : Nat) (l : List ActD), v = .slice A l.length c ∧ l.length ≤ c ∧ c ≤ maxLen ∧ RowAt ActD.cells 3 w A l ∧ ∀ a ∈ l, a.ok := by
  exact open_rows (P := Tryd.prog) ActD.cells 3 (fun _ a => a.ok) Tryd.underlying23 (by kernel_rfl) (by omega) (fun n cs' y hl ht => by
    have hf := struct_cells (P := Tryd.prog) Tryd.underlying56 (by kernel_rfl) hl ht
    match cs', hl with
    | [c0, c1, c2], _ =>
      obtain ⟨_, _, t0⟩ := hf 0 _ c0 rfl rfl
      obtain ⟨_, _, t1⟩ := hf 1 _ c1 rfl rfl
      obtain ⟨_, _, t2⟩ := hf 2 _ c2 rfl rfl
      obtain ⟨n0, e0, _, q0⟩ := DataW.trod_int Tryd.underlying5 t0
      obtain ⟨n1, e1, _, q1⟩ := DataW.trod_int Tryd.underlying5 t1
      obtain ⟨n2, e2, _, q2⟩ := DataW.trod_int Tryd.underlying5 t2
      simp only [List.cons.injEq, and_true] at e0 e1 e2
      subst e0 e1 e2
      exact ⟨⟨n0, n1, n2⟩, rfl, wf_u8 q0, wf_u8 q1, wf_u8 q2⟩) hv h
set_option maxRecDepth 100000 in
theorem open_bytes2 (hv : Value.okWide Tryd.prog w r b0 22 v) (h : DataW.Trod enc Tryd.prog w base spare held 22 v d ps) :
    ∃ a b : Int, v = .agg #[.int .u8 a, .int .u8 b] ∧ (0 ≤ a ∧ a ≤ 255) ∧ (0 ≤ b ∧ b ≤ 255) := by
  have ht := Tryd.underlying22
  have hc : Tryd.prog.cellsOf 22 = 2 := by kernel_rfl
  have hce : Tryd.prog.cellsOf 5 = 1 := by kernel_rfl
  obtain ⟨cs, rfl, hsz⟩ : ∃ cs, v = .agg cs ∧ cs.size = 2 := by
    cases v <;> simp [Value.okWide, ht, hc] at hv
    exact ⟨_, rfl, hv.1⟩
  obtain ⟨l⟩ := cs
  obtain ⟨a, b, rfl⟩ : ∃ a b, l = [a, b] := by
    match l, hsz with
    | [a, b], _ => exact ⟨a, b, rfl⟩
  obtain ⟨fuel, hf⟩ := h
  obtain ⟨xs, m, _, _, _, hl, hi⟩ := DataW.trod_array ht hf
  have h0 := hi 0 (by omega)
  have h1 := hi 1 (by omega)
  rw [hce] at h0 h1
  cases e0 : xs[0]? with
  | none => rw [List.getElem?_eq_none_iff] at e0; omega
  | some y =>
    cases e1 : xs[1]? with
    | none => rw [List.getElem?_eq_none_iff] at e1; omega
    | some z =>
      rw [e0] at h0
      rw [e1] at h1
      obtain ⟨n0, f0, _, q0⟩ := DataW.trod_int Tryd.underlying5 h0
      obtain ⟨n1, f1, _, q1⟩ := DataW.trod_int Tryd.underlying5 h1
      injection f0 with f0
      injection f1 with f1
      subst f0 f1
      exact ⟨n0, n1, rfl, wf_u8 q0, wf_u8 q1⟩
set_option maxRecDepth 100000 in
theorem open_handle (hv : Value.okWide Tryd.prog w r b0 34 v) (h : DataW.Trod enc Tryd.prog w base spare held 34 v d ps) :
    ∃ a b : Int, v = .agg #[.int .i64 a, .int .u64 b] := by
  have ht := Tryd.underlying34
  have hc : Tryd.prog.cellsOf 34 = 2 := by kernel_rfl
  obtain ⟨cs, rfl, hsz⟩ : ∃ cs, v = .agg cs ∧ cs.size = 2 := by
    cases v <;> simp [Value.okWide, ht, hc] at hv
    exact ⟨_, rfl, hv.1⟩
  obtain ⟨l⟩ := cs
  obtain ⟨a, b, rfl⟩ : ∃ a b, l = [a, b] := by
    match l, hsz with
    | [a, b], _ => exact ⟨a, b, rfl⟩
  obtain ⟨fuel, hf⟩ := h
  have hcell := struct_cells (P := Tryd.prog) ht (by kernel_rfl) (by rfl) hf
  obtain ⟨_, _, t0⟩ := hcell 0 _ a rfl rfl
  obtain ⟨_, _, t1⟩ := hcell 1 _ b rfl rfl
  obtain ⟨n0, f0, _, _⟩ := DataW.trod_int Tryd.underlying3 t0
  obtain ⟨n1, f1, _, _⟩ := DataW.trod_int Tryd.underlying28 t1
  injection f0 with f0
  injection f1 with f1
  subst f0 f1
  exact ⟨n0, n1, rfl⟩
end
end Go.Proofs.YtkmmnmicmjohgaaDoor
