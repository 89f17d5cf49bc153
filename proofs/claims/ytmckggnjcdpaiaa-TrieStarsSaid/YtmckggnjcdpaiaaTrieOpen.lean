/- Lists of rules and of labels that a law is handed, opened. -/
import Derived.Test.YtmckggnjcdpaiaaRow
import Derived.Test.YtmckggnjcdpaiaaOpen
import Derived.Test.YtmckggnjcdpaiaaTrieAwake
set_option linter.unusedVariables false
set_option linter.unusedSimpArgs false
namespace Go.Proofs.Ytmckggnjcdpaiaa
open Go.RowKit Go.ChangeShapes Go.WideShapes Go.Deep

section
variable {H : Type} {enc : TypeId × Value → H} {P : Program} {w : World} {base : Nat} {spare : Nat → Bool} {held : Bool}
/-- open_rows, for a slice that is one cell of a struct. -/
theorem open_rows_cs {α : Type} (f : α → List Value) (sz : Nat) (Q : World → α → Prop) {t e : TypeId} {u : Value} {fuel : Nat} {y : DataW H × List MemPlace} (ht : P.underlying t = some (.slice e)) (hc : P.cellsOf e = sz) (hsz : 0 < sz)
    (hel : ∀ (n : Nat) (cs' : List Value) (y : DataW H × List MemPlace), cs'.length = sz → DataW.trod enc P w base spare held n e cs' = some y → ∃ x, cs' = f x ∧ Q w x)
    (hf : DataW.trod enc P w base spare held fuel t [u] = some y) :
    ∃ (A : Option Addr) (c : Nat) (l : List α), u = .slice A l.length c ∧ l.length ≤ c ∧ c ≤ maxLen ∧ RowAt f sz w A l ∧ ∀ x ∈ l, Q w x := by
  rcases open_slice ht hf with ⟨hcs, _⟩ | ⟨a, len, cap, m, nn, D, Pl, hcs, hb, hl, hm, hmm, hx, hi⟩
  · simp only [List.cons.injEq, and_true] at hcs
    subst hcs
    exact ⟨none, 0, [], rfl, Nat.le_refl _, Nat.zero_le _, fun i x hx => by simp at hx, fun x hx => by simp at hx⟩
  · simp only [List.cons.injEq, and_true] at hcs
    subst hcs
    have hml : len ≤ m := by rw [hmm]; split <;> omega
    have hall : ∀ i, i < len → ∃ x : α, (∀ j u, (f x)[j]? = some u → w.cell? (a.add (i * sz + j)) = some u) ∧ (f x).length = sz ∧ Q w x := by
      intro i hin
      obtain ⟨cs', hcs', htr⟩ := hi i (by omega)
      rw [hc] at hcs'
      obtain ⟨_, hlen, hat⟩ := World.cells?_some hcs'
      obtain ⟨x, rfl, hq⟩ := hel _ _ _ hlen htr
      refine ⟨x, fun j u hu => ?_, hlen, hq⟩
      have hj : j < sz := by rw [← hlen]; exact (List.getElem?_eq_some_iff.1 hu).1
      have := hat j hj
      rw [add_add] at this
      exact this.trans hu
    obtain ⟨l, hll, hlp⟩ : ∃ l : List α, l.length = len ∧ ∀ i x, l[i]? = some x → (∀ j u, (f x)[j]? = some u → w.cell? (a.add (i * sz + j)) = some u) ∧ (f x).length = sz ∧ Q w x := by
      clear hf hi hx hml hl hm hmm
      induction len with
      | zero => exact ⟨[], rfl, fun i x hx => by simp at hx⟩
      | succ n ih =>
        obtain ⟨l, h1, h2⟩ := ih (fun i hin => hall i (by omega))
        obtain ⟨x, hx⟩ := hall n (by omega)
        refine ⟨l ++ [x], by simp [h1], fun i y hy => ?_⟩
        by_cases hin : i < l.length
        · rw [List.getElem?_append_left hin] at hy
          exact h2 i y hy
        · rw [List.getElem?_append_right (by omega)] at hy
          have : i - l.length = 0 := by
            have := (List.getElem?_eq_some_iff.1 hy).1
            simp at this
            omega
          rw [this] at hy
          simp only [List.getElem?_cons_zero, Option.some.injEq] at hy
          subst hy
          have : i = n := by omega
          subst this
          exact hx
    refine ⟨some a, cap, l, by rw [hll], by omega, hm, fun i x hx => ?_, fun x hx => ?_⟩
    · have hln : 0 < len := by have := (List.getElem?_eq_some_iff.1 hx).1; omega
      obtain ⟨h1, h2, _⟩ := hlp i x hx
      have hspot : a.spot = none := by
        obtain ⟨y, hy⟩ : ∃ y, l[0]? = some y := ⟨l[0]'(by omega), List.getElem?_eq_getElem (by omega)⟩
        obtain ⟨g1, g2, _⟩ := hlp 0 y hy
        obtain ⟨u, hu⟩ : ∃ u, (f y)[0]? = some u := ⟨(f y)[0]'(by omega), List.getElem?_eq_getElem (by omega)⟩
        have := g1 0 u hu
        rcases addr_plain this with ⟨_, h⟩ | h
        · exact h
        · omega
      obtain ⟨b, off, sp⟩ := a
      simp only at hspot
      subst hspot
      refine ⟨b, off, rfl, fun j u hu => ?_⟩
      have := h1 j u hu
      rwa [show ((⟨b, off, none⟩ : Addr).add (i * sz + j)) = ⟨b, off + i * sz + j, none⟩ by unfold Addr.add; split <;> simp_all <;> omega] at this
    · obtain ⟨i, hi⟩ := List.getElem?_of_mem hx
      exact (hlp i x hi).2.2
end
section
variable {H : Type} {enc : TypeId × Value → H} {w : World} {base : Nat} {spare : Nat → Bool} {held : Bool}
theorem str_cell (n : Nat) (cs' : List Value) (y : DataW H × List MemPlace) (hl : cs'.length = 1) (ht : DataW.trod enc Try.prog w base spare held n 9 cs' = some y) : ∃ x, cs' = strC x ∧ True := by
  match cs', hl with
  | [c0], _ =>
    obtain ⟨k, e, _⟩ := DataW.trod_string Try.underlying9 ht
    exact ⟨k, by simpa [strC] using e, trivial⟩
theorem rule_cells (n : Nat) (cs' : List Value) (y : DataW H × List MemPlace) (hl : cs'.length = 2) (ht : DataW.trod enc Try.prog w base spare held n 34 cs' = some y) : ∃ x, cs' = RulV.cells x ∧ RulV.ok w x := by
  have hf := struct_cells (P := Try.prog) Try.underlying34 (by kernel_rfl) hl ht
  match cs', hl with
  | [c0, c1], _ =>
    obtain ⟨_, _, t0⟩ := hf 0 _ c0 rfl rfl
    obtain ⟨_, _, t1⟩ := hf 1 _ c1 rfl rfl
    obtain ⟨A, c, l, e0, h1, h2, h3, _⟩ := open_rows_cs strC 1 (fun _ _ => True) Try.underlying23 (by kernel_rfl) (by omega) str_cell t0
    obtain ⟨p, e1, _⟩ := DataW.trod_bool Try.underlying4 t1
    simp only [List.cons.injEq, and_true] at e1
    subst e0 e1
    exact ⟨⟨A, c, ⟨l, p⟩⟩, rfl, h1, h2, h3⟩
theorem open_strs {v : Value} {d : DataW H} {ps : List MemPlace} {r : Reach} {b0 : Nat} (hv : Value.okWide Try.prog w r b0 23 v) (h : DataW.Trod enc Try.prog w base spare held 23 v d ps) :
    ∃ (A : Option Addr) (c : Nat) (l : List ByteArray), v = .slice A l.length c ∧ l.length ≤ c ∧ c ≤ maxLen ∧ RowAt strC 1 w A l := by
  obtain ⟨A, c, l, h1, h2, h3, h4, _⟩ := open_rows (P := Try.prog) strC 1 (fun _ _ => True) Try.underlying23 (by kernel_rfl) (by omega) str_cell hv h
  exact ⟨A, c, l, h1, h2, h3, h4⟩
theorem open_rules {v : Value} {d : DataW H} {ps : List MemPlace} {r : Reach} {b0 : Nat} (hv : Value.okWide Try.prog w r b0 22 v) (h : DataW.Trod enc Try.prog w base spare held 22 v d ps) :
    ∃ (A : Option Addr) (c : Nat) (l : List RulV), v = .slice A l.length c ∧ l.length ≤ c ∧ c ≤ maxLen ∧ RowAt RulV.cells 2 w A l ∧ ∀ x ∈ l, x.ok w :=
  open_rows (P := Try.prog) RulV.cells 2 RulV.ok Try.underlying22 (by kernel_rfl) (by omega) rule_cells hv h
end
end Go.Proofs.Ytmckggnjcdpaiaa
