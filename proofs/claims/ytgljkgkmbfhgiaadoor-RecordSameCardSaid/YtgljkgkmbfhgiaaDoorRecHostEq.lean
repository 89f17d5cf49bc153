/- Hosts compared. -/
import Derived.Test.YtgljkgkmbfhgiaaDoorRecAlike
import Derived.DeepKeys
set_option linter.unusedVariables false
set_option linter.unusedSimpArgs false
set_option maxRecDepth 100000
namespace Go.Proofs.YtgljkgkmbfhgiaaDoor
open Go.RowKit Rec

def litsH (h : HostV) : List Lit := [.int .i64 h.kind, .string h.name.data.toList, .int .u32 h.v4, .int .u16 h.a0, .int .u16 h.a1, .int .u16 h.a2, .int .u16 h.a3, .int .u16 h.a4, .int .u16 h.a5, .int .u16 h.a6, .int .u16 h.a7]
theorem host_key : Tryd.prog.keyTypeAt 5 26 = true := by kernel_rfl
theorem lits_is (h : HostV) (ho : h.ok) (hn : h.name.size ≤ 100) : Tryd.prog.keyLits 3 26 h.cells = some (litsH h) := by
  obtain ⟨k, nm, v4, a0, a1, a2, a3, a4, a5, a6, a7⟩ := h
  have k0 := ho.k0
  have k1 := ho.k1
  have h4 := ho.v4
  have h6 := ho.v6
  simp only [HostV.v6, List.mem_cons, List.not_mem_nil, or_false] at k0 k1 h4 h6 hn
  have wk : (Lit.int .i64 k).wf = true := by simp only [Lit.wf, Bool.and_eq_true, decide_eq_true_eq]; exact ⟨k0, k1⟩
  have w4 : (Lit.int .u32 (v4 : Int)).wf = true := by
    simp only [Lit.wf, Bool.and_eq_true, decide_eq_true_eq]
    exact (show 0 ≤ (v4 : Int) ∧ (v4 : Int) ≤ 4294967295 from ⟨by omega, by omega⟩)
  have w6 : ∀ n : Nat, n < 65536 → (Lit.int .u16 (n : Int)).wf = true := fun n hn => by
    simp only [Lit.wf, Bool.and_eq_true, decide_eq_true_eq]
    exact (show 0 ≤ (n : Int) ∧ (n : Int) ≤ 65535 from ⟨by omega, by omega⟩)
  have hm : nm.size ≤ maxLen := by unfold maxLen; omega
  have e0 := w6 a0 (h6 a0 (by simp))
  have e1 := w6 a1 (h6 a1 (by simp))
  have e2 := w6 a2 (h6 a2 (by simp))
  have e3 := w6 a3 (h6 a3 (by simp))
  have e4 := w6 a4 (h6 a4 (by simp))
  have e5 := w6 a5 (h6 a5 (by simp))
  have e6 := w6 a6 (h6 a6 (by simp))
  have e7 := w6 a7 (h6 a7 (by simp))
  have hr : List.range 8 = [0, 1, 2, 3, 4, 5, 6, 7] := rfl
  simp [Program.keyLits, HostV.cells, Tryd.underlying26, Tryd.underlying3, Tryd.underlying9, Tryd.underlying22, Tryd.underlying23, Tryd.underlying24, cells_host, cells_int, cells_str, cells_u32, cells_u16, cells_adr, hr, wk, w4, e0, e1, e2, e3, e4, e5, e6, e7, hm, litsH]
theorem lits_iff {a b : HostV} : litsH a = litsH b ↔ a = b := by
  constructor
  · intro h
    obtain ⟨k, nm, v4, a0, a1, a2, a3, a4, a5, a6, a7⟩ := a
    obtain ⟨k', nm', v4', b0, b1, b2, b3, b4, b5, b6, b7⟩ := b
    simp only [litsH, List.cons.injEq, Lit.int.injEq, Lit.string.injEq, true_and, and_true] at h
    obtain ⟨h0, h1, h2, h3, h4, h5, h6, h7, h8, h9, h10⟩ := h
    have : nm = nm' := by
      cases nm with | mk nm => cases nm' with | mk nm' =>
      cases nm with | mk nm => cases nm' with | mk nm' =>
      simpa using h1
    subst this h0
    congr 1 <;> omega
  · intro h; rw [h]
def sameHV (a b : HostV) : Bool := decide (a.kind = b.kind ∧ a.name = b.name ∧ a.v4 = b.v4 ∧ a.v6 = b.v6)
theorem sameHV_iff {a b : HostV} : sameHV a b = true ↔ a = b := by
  unfold sameHV
  rw [decide_eq_true_iff]
  constructor
  · rintro ⟨h1, h2, h3, h4⟩
    obtain ⟨k, nm, v4, a0, a1, a2, a3, a4, a5, a6, a7⟩ := a
    obtain ⟨k', nm', v4', b0, b1, b2, b3, b4, b5, b6, b7⟩ := b
    simp only [HostV.v6, List.cons.injEq, and_true] at h1 h2 h3 h4
    obtain ⟨g0, g1, g2, g3, g4, g5, g6, g7⟩ := h4
    subst h1 h2 h3 g0 g1 g2 g3 g4 g5 g6 g7
    rfl
  · intro h; rw [h]; exact ⟨rfl, rfl, rfl, rfl⟩
theorem host_eq (a b : HostV) (ha : a.ok) (hb : b.ok) (na : a.name.size ≤ 100) (nb : b.name.size ≤ 100) (w : World) : (Op.equalIn 10000 26 (.agg a.cells.toArray) (.agg b.cells.toArray)).run Tryd.prog w = .ok (sameHV a b) w := by
  obtain ⟨r, h1, h2⟩ := run_equalIn_deep 9995 5 26 host_key w 3 3 (.agg a.cells.toArray) (.agg b.cells.toArray) (litsH a) (litsH b) (by simp [Value.formed, Tryd.underlying26, cells_host, HostV.cells]) (by simp [Value.formed, Tryd.underlying26, cells_host, HostV.cells]) (by simpa [Value.cells] using lits_is a ha na) (by simpa [Value.cells] using lits_is b hb nb)
  have e : r = sameHV a b := by
    rw [Bool.eq_iff_iff, h2, lits_iff, sameHV_iff]
  rw [e] at h1
  exact h1
end Go.Proofs.YtgljkgkmbfhgiaaDoor
