/- Arguments that are slices, opened: what each element's cells hold. -/
import Derived.Test.YtbeibfhnbnmocaaDoorBase
import Derived.ProofKit
import Derived.Deep.Slices
import Derived.OpenShut
set_option linter.unusedVariables false
set_option linter.unusedSimpArgs false
namespace Go.Proofs.YtbeibfhnbnmocaaDoor
open Go.RowKit Go.ChangeShapes Go.WideShapes Go.Deep

/-- The slice at A reads as l: element i's cells are f of it. -/
def RowAt {α : Type} (f : α → List Value) (sz : Nat) (w : World) (A : Option Addr) (l : List α) : Prop :=
  ∀ i x, l[i]? = some x → ∃ b off, A = some ⟨b, off, none⟩ ∧ ∀ j u, (f x)[j]? = some u → w.cell? ⟨b, off + i * sz + j, none⟩ = some u

theorem RowAt.keep {α : Type} {f : α → List Value} {sz : Nat} {w w' : World} {A : Option Addr} {l : List α} (h : RowAt f sz w A l) (hb : Below w.heap.size w w') : RowAt f sz w' A l := by
  intro i x hx
  obtain ⟨b, off, e, hc⟩ := h i x hx
  exact ⟨b, off, e, fun j u hu => (hb.cell (World.block_lt_of_cell? w _ (hc j u hu))).trans (hc j u hu)⟩
theorem RowAt.keepB {α : Type} {f : α → List Value} {sz : Nat} {w0 w w' : World} {A : Option Addr} {l : List α} (h : RowAt f sz w0 A l) (hb : Below w0.heap.size w0 w) : RowAt f sz w A l := h.keep hb

section
variable {H : Type} {enc : TypeId × Value → H} {P : Program} {w : World} {base : Nat} {spare : Nat → Bool} {held : Bool}
theorem addr_plain {a : Addr} {u : Value} {k : Nat} (h : w.cell? (a.add k) = some u) : k = 0 ∧ a.spot = none ∨ 0 < k := by
  rcases Nat.eq_zero_or_pos k with rfl | hk
  · left
    refine ⟨rfl, ?_⟩
    cases hs : a.spot with
    | none => rfl
    | some s => simp [Addr.add, World.cell?, hs] at h; split at h <;> cases h
  · exact .inr hk
theorem open_rows {α : Type} (f : α → List Value) (sz : Nat) (Q : World → α → Prop) {t e : TypeId} {v : Value} {d : DataW H} {ps : List MemPlace} {r : Reach} {b0 : Nat} (ht : P.underlying t = some (.slice e)) (hc : P.cellsOf e = sz) (hsz : 0 < sz)
    (hel : ∀ (n : Nat) (cs' : List Value) (y : DataW H × List MemPlace), cs'.length = sz → DataW.trod enc P w base spare held n e cs' = some y → ∃ x, cs' = f x ∧ Q w x)
    (hv : Value.okWide P w r b0 t v) (h : DataW.Trod enc P w base spare held t v d ps) :
    ∃ (A : Option Addr) (c : Nat) (l : List α), v = .slice A l.length c ∧ l.length ≤ c ∧ c ≤ maxLen ∧ RowAt f sz w A l ∧ ∀ x ∈ l, Q w x := by
  obtain ⟨A, n, c, rfl⟩ := okWide_slice ht hv
  obtain ⟨fuel, hf⟩ := h
  rcases open_slice ht hf with ⟨hcs, _⟩ | ⟨a, len, cap, m, nn, D, Pl, hcs, hb, hl, hm, hmm, hx, hi⟩
  · simp only [Value.cells, List.cons.injEq, and_true, Value.slice.injEq] at hcs
    obtain ⟨rfl, rfl, rfl⟩ := hcs
    exact ⟨none, 0, [], rfl, Nat.le_refl _, Nat.zero_le _, fun i x hx => by simp at hx, fun x hx => by simp at hx⟩
  · simp only [Value.cells, List.cons.injEq, and_true, Value.slice.injEq] at hcs
    obtain ⟨rfl, rfl, rfl⟩ := hcs
    have hml : n ≤ m := by rw [hmm]; split <;> omega
    have hall : ∀ i, i < n → ∃ x : α, (∀ j u, (f x)[j]? = some u → w.cell? (a.add (i * sz + j)) = some u) ∧ (f x).length = sz ∧ Q w x := by
      intro i hin
      obtain ⟨cs', hcs', htr⟩ := hi i (by omega)
      rw [hc] at hcs'
      obtain ⟨_, hlen, hat⟩ := World.cells?_some hcs'
      obtain ⟨x, rfl, hq⟩ := hel _ _ _ hlen htr
      refine ⟨x, fun j u hu => ?_, hlen, hq⟩
      have hj : j < sz := by rw [← hlen]; exact (List.getElem?_eq_some_iff.1 hu).1
      have := hat j hj
      rw [add_add] at this
      exact this.trans hu
    obtain ⟨l, hll, hlp⟩ : ∃ l : List α, l.length = n ∧ ∀ i x, l[i]? = some x → (∀ j u, (f x)[j]? = some u → w.cell? (a.add (i * sz + j)) = some u) ∧ (f x).length = sz ∧ Q w x := by
      clear hf hi hx hml hl hm hmm hv
      induction n with
      | zero => exact ⟨[], rfl, fun i x hx => by simp at hx⟩
      | succ n ih =>
        obtain ⟨l, h1, h2⟩ := ih (fun i hin => hall i (by omega))
        obtain ⟨x, hx⟩ := hall n (by omega)
        refine ⟨l ++ [x], by simp [h1], fun i y hy => ?_⟩
        by_cases hin : i < l.length
        · rw [List.getElem?_append_left hin] at hy
          exact h2 i y hy
        · rw [List.getElem?_append_right (by omega)] at hy
          have : i - l.length = 0 := by
            have := (List.getElem?_eq_some_iff.1 hy).1
            simp at this
            omega
          rw [this] at hy
          simp only [List.getElem?_cons_zero, Option.some.injEq] at hy
          subst hy
          have : i = n := by omega
          subst this
          exact hx
    refine ⟨some a, c, l, by rw [hll], by omega, hm, fun i x hx => ?_, fun x hx => ?_⟩
    · have hln : 0 < n := by have := (List.getElem?_eq_some_iff.1 hx).1; omega
      obtain ⟨h1, h2, _⟩ := hlp i x hx
      have hspot : a.spot = none := by
        obtain ⟨y, hy⟩ : ∃ y, l[0]? = some y := ⟨l[0]'(by omega), List.getElem?_eq_getElem (by omega)⟩
        obtain ⟨g1, g2, _⟩ := hlp 0 y hy
        obtain ⟨u, hu⟩ : ∃ u, (f y)[0]? = some u := ⟨(f y)[0]'(by omega), List.getElem?_eq_getElem (by omega)⟩
        have := g1 0 u hu
        rcases addr_plain this with ⟨_, h⟩ | h
        · exact h
        · omega
      obtain ⟨b, off, sp⟩ := a
      simp only at hspot
      subst hspot
      refine ⟨b, off, rfl, fun j u hu => ?_⟩
      have := h1 j u hu
      rwa [show ((⟨b, off, none⟩ : Addr).add (i * sz + j)) = ⟨b, off + i * sz + j, none⟩ by unfold Addr.add; split <;> simp_all <;> omega] at this
    · obtain ⟨i, hi⟩ := List.getElem?_of_mem hx
      exact (hlp i x hi).2.2

/-- A struct's cells, field by field, where each field is one cell. -/
theorem struct_cells {t : TypeId} {fs : Array Field} {n : Nat} {cs : List Value} {y : DataW H × List MemPlace} (ht : P.underlying t = some (.struct fs)) (hone : (fs.toList.zipIdx.all fun p => decide (p.1.offset = p.2) && decide (P.cellsOf p.1.type = 1)) = true) (hlen : cs.length = fs.size)
    (h : DataW.trod enc P w base spare held n t cs = some y) : ∀ (j : Nat) (f : Field) (u : Value), fs[j]? = some f → cs[j]? = some u → ∃ m z, DataW.trod enc P w base spare held m f.type [u] = some z := by
  intro j f u hj hu
  obtain ⟨xs, m, _, _, _, hxl, hf⟩ := DataW.trod_struct ht h
  have hjl : j < fs.size := (Array.getElem?_eq_some_iff.1 hj).1
  have h1 := hf j f hj
  have hmem : (f, j) ∈ fs.toList.zipIdx := by
    rw [List.mem_zipIdx_iff_getElem?]
    simpa using hj
  have h2 := List.all_eq_true.1 hone _ hmem
  simp only [Bool.and_eq_true, decide_eq_true_eq] at h2
  have hd : (cs.drop j).take 1 = [u] := by
    have hl : j < cs.length := by omega
    rw [List.drop_eq_getElem_cons hl]
    have : cs[j] = u := by rw [List.getElem?_eq_getElem hl] at hu; exact Option.some.inj hu
    rw [this]; rfl
  rw [h2.1, h2.2, hd, List.getElem?_eq_getElem (by omega)] at h1
  exact ⟨m, _, h1⟩
end
end Go.Proofs.YtbeibfhnbnmocaaDoor
