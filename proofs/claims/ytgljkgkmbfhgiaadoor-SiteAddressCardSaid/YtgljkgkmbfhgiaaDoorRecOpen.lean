/- URLs and hosts that a law is handed, opened. -/
import Derived.Test.YtgljkgkmbfhgiaaDoorRecPure
import Derived.Test.YtgljkgkmbfhgiaaDoorRow
import Derived.Test.YtgljkgkmbfhgiaaDoorOpen
import Derived.Test.YtgljkgkmbfhgiaaDoorRegI
import Derived.Stop.Joined
set_option linter.unusedVariables false
set_option linter.unusedSimpArgs false
set_option maxRecDepth 100000
namespace Go.Proofs.YtgljkgkmbfhgiaaDoor
open Go.RowKit Go.ChangeShapes Go.WideShapes Go.Deep Rec


section
variable {H : Type} {enc : TypeId × Value → H} {P : Program} {w : World} {base : Nat} {spare : Nat → Bool} {held : Bool}
/-- open_rows, for a slice that is one cell of a struct. -/
theorem open_rows_csS {α : Type} (f : α → List Value) (sz : Nat) (Q : World → α → Prop) {t e : TypeId} {u : Value} {fuel : Nat} {y : DataW H × List MemPlace} (ht : P.underlying t = some (.slice e)) (hc : P.cellsOf e = sz) (hsz : 0 < sz)
    (hel : ∀ (n : Nat) (cs' : List Value) (y : DataW H × List MemPlace), cs'.length = sz → DataW.trod enc P w base spare held n e cs' = some y → ∃ x, cs' = f x ∧ Q w x)
    (hf : DataW.trod enc P w base spare held fuel t [u] = some y) :
    ∃ (A : Option Addr) (c : Nat) (l : List α), u = .slice A l.length c ∧ l.length ≤ c ∧ c ≤ maxLen ∧ RowAt f sz w A l ∧ ∀ x ∈ l, Q w x := by
  rcases open_slice ht hf with ⟨hcs, _⟩ | ⟨a, len, cap, m, nn, D, Pl, hcs, hb, hl, hm, hmm, hx, hi⟩
  · simp only [List.cons.injEq, and_true] at hcs
    subst hcs
    exact ⟨none, 0, [], rfl, Nat.le_refl _, Nat.zero_le _, fun i x hx => by simp at hx, fun x hx => by simp at hx⟩
  · simp only [List.cons.injEq, and_true] at hcs
    subst hcs
    have hml : len ≤ m := by rw [hmm]; split <;> omega
    have hall : ∀ i, i < len → ∃ x : α, (∀ j u, (f x)[j]? = some u → w.cell? (a.add (i * sz + j)) = some u) ∧ (f x).length = sz ∧ Q w x := by
      intro i hin
      obtain ⟨cs', hcs', htr⟩ := hi i (by omega)
      rw [hc] at hcs'
      obtain ⟨_, hlen, hat⟩ := World.cells?_some hcs'
      obtain ⟨x, rfl, hq⟩ := hel _ _ _ hlen htr
      refine ⟨x, fun j u hu => ?_, hlen, hq⟩
      have hj : j < sz := by rw [← hlen]; exact (List.getElem?_eq_some_iff.1 hu).1
      have := hat j hj
      rw [add_add] at this
      exact this.trans hu
    obtain ⟨l, hll, hlp⟩ : ∃ l : List α, l.length = len ∧ ∀ i x, l[i]? = some x → (∀ j u, (f x)[j]? = some u → w.cell? (a.add (i * sz + j)) = some u) ∧ (f x).length = sz ∧ Q w x := by
      clear hf hi hx hml hl hm hmm
      induction len with
      | zero => exact ⟨[], rfl, fun i x hx => by simp at hx⟩
      | succ n ih =>
        obtain ⟨l, h1, h2⟩ := ih (fun i hin => hall i (by omega))
        obtain ⟨x, hx⟩ := hall n (by omega)
        refine ⟨l ++ [x], by simp [h1], fun i y hy => ?_⟩
        by_cases hin : i < l.length
        · rw [List.getElem?_append_left hin] at hy
          exact h2 i y hy
        · rw [List.getElem?_append_right (by omega)] at hy
          have : i - l.length = 0 := by
            have := (List.getElem?_eq_some_iff.1 hy).1
            simp at this
            omega
          rw [this] at hy
          simp only [List.getElem?_cons_zero, Option.some.injEq] at hy
          subst hy
          have : i = n := by omega
          subst this
          exact hx
    refine ⟨some a, cap, l, by rw [hll], by omega, hm, fun i x hx => ?_, fun x hx => ?_⟩
    · have hln : 0 < len := by have := (List.getElem?_eq_some_iff.1 hx).1; omega
      obtain ⟨h1, h2, _⟩ := hlp i x hx
      have hspot : a.spot = none := by
        obtain ⟨y, hy⟩ : ∃ y, l[0]? = some y := ⟨l[0]'(by omega), List.getElem?_eq_getElem (by omega)⟩
        obtain ⟨g1, g2, _⟩ := hlp 0 y hy
        obtain ⟨u, hu⟩ : ∃ u, (f y)[0]? = some u := ⟨(f y)[0]'(by omega), List.getElem?_eq_getElem (by omega)⟩
        have := g1 0 u hu
        rcases addr_plain this with ⟨_, h⟩ | h
        · exact h
        · omega
      obtain ⟨b, off, sp⟩ := a
      simp only at hspot
      subst hspot
      refine ⟨b, off, rfl, fun j u hu => ?_⟩
      have := h1 j u hu
      rwa [show ((⟨b, off, none⟩ : Addr).add (i * sz + j)) = ⟨b, off + i * sz + j, none⟩ by unfold Addr.add; split <;> simp_all <;> omega] at this
    · obtain ⟨i, hi⟩ := List.getElem?_of_mem hx
      exact (hlp i x hi).2.2
end
section
variable {H : Type} {enc : TypeId × Value → H} {w : World} {base : Nat} {spare : Nat → Bool} {held : Bool}
theorem str_cellS (n : Nat) (cs' : List Value) (y : DataW H × List MemPlace) (hl : cs'.length = 1) (ht : DataW.trod enc Tryd.prog w base spare held n 9 cs' = some y) : ∃ x, cs' = textC x ∧ True := by
  match cs', hl with
  | [c0], _ =>
    obtain ⟨k, e, _⟩ := DataW.trod_string Tryd.underlying9 ht
    exact ⟨k, by simpa [textC] using e, trivial⟩
theorem wf_u16r {n : Int} (h : (Lit.int .u16 n).wf = true) : 0 ≤ n ∧ n ≤ 65535 := by simp only [Lit.wf, Bool.and_eq_true, decide_eq_true_eq] at h; exact h
theorem wf_u32r {n : Int} (h : (Lit.int .u32 n).wf = true) : 0 ≤ n ∧ n ≤ 4294967295 := by simp only [Lit.wf, Bool.and_eq_true, decide_eq_true_eq] at h; exact h
theorem wf_i64r {n : Int} (h : (Lit.int .i64 n).wf = true) : -9223372036854775808 ≤ n ∧ n ≤ 9223372036854775807 := by simp only [Lit.wf, Bool.and_eq_true, decide_eq_true_eq] at h; exact h
theorem cells_str : Tryd.prog.cellsOf 9 = 1 := by kernel_rfl
theorem cells_int : Tryd.prog.cellsOf 3 = 1 := by kernel_rfl
theorem cells_bool : Tryd.prog.cellsOf 4 = 1 := by kernel_rfl
theorem cells_u32 : Tryd.prog.cellsOf 22 = 1 := by kernel_rfl
theorem cells_u16 : Tryd.prog.cellsOf 23 = 1 := by kernel_rfl
theorem cells_adr : Tryd.prog.cellsOf 24 = 8 := by kernel_rfl
theorem cells_host : Tryd.prog.cellsOf 26 = 11 := by kernel_rfl
theorem cells_strs : Tryd.prog.cellsOf 27 = 1 := by kernel_rfl
theorem cells_url : Tryd.prog.cellsOf 29 = 21 := by kernel_rfl
theorem adr_cells (n : Nat) (c0 c1 c2 c3 c4 c5 c6 c7 : Value) (y : DataW H × List MemPlace) (ht : DataW.trod enc Tryd.prog w base spare held n 24 [c0, c1, c2, c3, c4, c5, c6, c7] = some y) :
    ∃ m0 m1 m2 m3 m4 m5 m6 m7 : Nat, [c0, c1, c2, c3, c4, c5, c6, c7] = [.int .u16 m0, .int .u16 m1, .int .u16 m2, .int .u16 m3, .int .u16 m4, .int .u16 m5, .int .u16 m6, .int .u16 m7] ∧ ∀ n ∈ [m0, m1, m2, m3, m4, m5, m6, m7], n < 65536 := by
  obtain ⟨xs, m, _, _, _, hl, hi⟩ := DataW.trod_array Tryd.underlying24 ht
  obtain ⟨y0, e0⟩ : ∃ y, xs[0]? = some y := ⟨xs[0]'(by omega), List.getElem?_eq_getElem _⟩
  have h0 := hi 0 (by omega)
  rw [cells_u16, e0] at h0
  obtain ⟨n0, f0, _, q0⟩ := DataW.trod_int Tryd.underlying23 h0
  injection f0 with f0
  subst f0
  have q0 := wf_u16r q0
  obtain ⟨m0, rfl⟩ := Int.eq_ofNat_of_zero_le q0.1
  obtain ⟨y1, e1⟩ : ∃ y, xs[1]? = some y := ⟨xs[1]'(by omega), List.getElem?_eq_getElem _⟩
  have h1 := hi 1 (by omega)
  rw [cells_u16, e1] at h1
  obtain ⟨n1, f1, _, q1⟩ := DataW.trod_int Tryd.underlying23 h1
  injection f1 with f1
  subst f1
  have q1 := wf_u16r q1
  obtain ⟨m1, rfl⟩ := Int.eq_ofNat_of_zero_le q1.1
  obtain ⟨y2, e2⟩ : ∃ y, xs[2]? = some y := ⟨xs[2]'(by omega), List.getElem?_eq_getElem _⟩
  have h2 := hi 2 (by omega)
  rw [cells_u16, e2] at h2
  obtain ⟨n2, f2, _, q2⟩ := DataW.trod_int Tryd.underlying23 h2
  injection f2 with f2
  subst f2
  have q2 := wf_u16r q2
  obtain ⟨m2, rfl⟩ := Int.eq_ofNat_of_zero_le q2.1
  obtain ⟨y3, e3⟩ : ∃ y, xs[3]? = some y := ⟨xs[3]'(by omega), List.getElem?_eq_getElem _⟩
  have h3 := hi 3 (by omega)
  rw [cells_u16, e3] at h3
  obtain ⟨n3, f3, _, q3⟩ := DataW.trod_int Tryd.underlying23 h3
  injection f3 with f3
  subst f3
  have q3 := wf_u16r q3
  obtain ⟨m3, rfl⟩ := Int.eq_ofNat_of_zero_le q3.1
  obtain ⟨y4, e4⟩ : ∃ y, xs[4]? = some y := ⟨xs[4]'(by omega), List.getElem?_eq_getElem _⟩
  have h4 := hi 4 (by omega)
  rw [cells_u16, e4] at h4
  obtain ⟨n4, f4, _, q4⟩ := DataW.trod_int Tryd.underlying23 h4
  injection f4 with f4
  subst f4
  have q4 := wf_u16r q4
  obtain ⟨m4, rfl⟩ := Int.eq_ofNat_of_zero_le q4.1
  obtain ⟨y5, e5⟩ : ∃ y, xs[5]? = some y := ⟨xs[5]'(by omega), List.getElem?_eq_getElem _⟩
  have h5 := hi 5 (by omega)
  rw [cells_u16, e5] at h5
  obtain ⟨n5, f5, _, q5⟩ := DataW.trod_int Tryd.underlying23 h5
  injection f5 with f5
  subst f5
  have q5 := wf_u16r q5
  obtain ⟨m5, rfl⟩ := Int.eq_ofNat_of_zero_le q5.1
  obtain ⟨y6, e6⟩ : ∃ y, xs[6]? = some y := ⟨xs[6]'(by omega), List.getElem?_eq_getElem _⟩
  have h6 := hi 6 (by omega)
  rw [cells_u16, e6] at h6
  obtain ⟨n6, f6, _, q6⟩ := DataW.trod_int Tryd.underlying23 h6
  injection f6 with f6
  subst f6
  have q6 := wf_u16r q6
  obtain ⟨m6, rfl⟩ := Int.eq_ofNat_of_zero_le q6.1
  obtain ⟨y7, e7⟩ : ∃ y, xs[7]? = some y := ⟨xs[7]'(by omega), List.getElem?_eq_getElem _⟩
  have h7 := hi 7 (by omega)
  rw [cells_u16, e7] at h7
  obtain ⟨n7, f7, _, q7⟩ := DataW.trod_int Tryd.underlying23 h7
  injection f7 with f7
  subst f7
  have q7 := wf_u16r q7
  obtain ⟨m7, rfl⟩ := Int.eq_ofNat_of_zero_le q7.1
  refine ⟨m0, m1, m2, m3, m4, m5, m6, m7, rfl, fun n hn => ?_⟩
  simp only [List.mem_cons, List.not_mem_nil, or_false] at hn
  omega
theorem host_cells (n : Nat) (cs : List Value) (y : DataW H × List MemPlace) (hlen : cs.length = 11) (ht : DataW.trod enc Tryd.prog w base spare held n 26 cs = some y) : ∃ h : HostV, cs = h.cells ∧ h.ok := by
  obtain ⟨xs, m, _, _, _, hxl, hf⟩ := DataW.trod_struct Tryd.underlying26 ht
  have hxl : xs.length = 4 := hxl
  match cs, hlen with
  | [c0, c1, c2, c3, c4, c5, c6, c7, c8, c9, c10], _ =>
    obtain ⟨z0, ez0⟩ : ∃ y, xs[0]? = some y := ⟨xs[0]'(by omega), List.getElem?_eq_getElem _⟩
    have g0 := hf 0 _ rfl
    rw [ez0] at g0
    obtain ⟨z1, ez1⟩ : ∃ y, xs[1]? = some y := ⟨xs[1]'(by omega), List.getElem?_eq_getElem _⟩
    have g1 := hf 1 _ rfl
    rw [ez1] at g1
    obtain ⟨z2, ez2⟩ : ∃ y, xs[2]? = some y := ⟨xs[2]'(by omega), List.getElem?_eq_getElem _⟩
    have g2 := hf 2 _ rfl
    rw [ez2] at g2
    obtain ⟨z3, ez3⟩ : ∃ y, xs[3]? = some y := ⟨xs[3]'(by omega), List.getElem?_eq_getElem _⟩
    have g3 := hf 3 _ rfl
    rw [ez3] at g3
    have g0 : DataW.trod enc Tryd.prog w base spare held m 3 (([c0, c1, c2, c3, c4, c5, c6, c7, c8, c9, c10].drop 0).take (Tryd.prog.cellsOf 3)) = some z0 := g0
    have g1 : DataW.trod enc Tryd.prog w base spare held m 9 (([c0, c1, c2, c3, c4, c5, c6, c7, c8, c9, c10].drop 1).take (Tryd.prog.cellsOf 9)) = some z1 := g1
    have g2 : DataW.trod enc Tryd.prog w base spare held m 22 (([c0, c1, c2, c3, c4, c5, c6, c7, c8, c9, c10].drop 2).take (Tryd.prog.cellsOf 22)) = some z2 := g2
    have g3 : DataW.trod enc Tryd.prog w base spare held m 24 (([c0, c1, c2, c3, c4, c5, c6, c7, c8, c9, c10].drop 3).take (Tryd.prog.cellsOf 24)) = some z3 := g3
    rw [cells_int] at g0
    rw [cells_str] at g1
    rw [cells_u32] at g2
    rw [cells_adr] at g3
    obtain ⟨k, e0, _, q0⟩ := DataW.trod_int Tryd.underlying3 g0
    obtain ⟨s, e1, _⟩ := DataW.trod_string Tryd.underlying9 g1
    obtain ⟨v, e2, _, q2⟩ := DataW.trod_int Tryd.underlying22 g2
    obtain ⟨m0, m1, m2, m3, m4, m5, m6, m7, e3, hm⟩ := adr_cells m c3 c4 c5 c6 c7 c8 c9 c10 z3 g3
    have q0 := wf_i64r q0
    have q2 := wf_u32r q2
    obtain ⟨v', rfl⟩ := Int.eq_ofNat_of_zero_le q2.1
    simp only [List.drop_zero, List.take_succ_cons, List.take_zero, List.drop_succ_cons, List.cons.injEq, and_true] at e0 e1 e2 e3
    obtain ⟨e30, e31, e32, e33, e34, e35, e36, e37⟩ := e3
    subst e0 e1 e2 e30 e31 e32 e33 e34 e35 e36 e37
    exact ⟨⟨k, s, v', m0, m1, m2, m3, m4, m5, m6, m7⟩, rfl, q0.1, q0.2, by show v' < 4294967296; omega, hm⟩
theorem url_cells (n : Nat) (cs : List Value) (y : DataW H × List MemPlace) (hlen : cs.length = 21) (ht : DataW.trod enc Tryd.prog w base spare held n 29 cs = some y) : ∃ (u : UrlV) (A : Option Addr) (c : Nat), cs = u.cells A c ∧ u.ok ∧ u.path.length ≤ c ∧ c ≤ maxLen ∧ RowAt textC 1 w A u.path := by
  obtain ⟨xs, m, _, _, _, hxl, hf⟩ := DataW.trod_struct Tryd.underlying29 ht
  have hxl : xs.length = 11 := hxl
  match cs, hlen with
  | [c0, c1, c2, c3, c4, c5, c6, c7, c8, c9, c10, c11, c12, c13, c14, c15, c16, c17, c18, c19, c20], _ =>
    obtain ⟨z0, ez0⟩ : ∃ y, xs[0]? = some y := ⟨xs[0]'(by omega), List.getElem?_eq_getElem _⟩
    have g0 := hf 0 _ rfl
    rw [ez0] at g0
    have g0 : DataW.trod enc Tryd.prog w base spare held m 9 (([c0, c1, c2, c3, c4, c5, c6, c7, c8, c9, c10, c11, c12, c13, c14, c15, c16, c17, c18, c19, c20].drop 0).take (Tryd.prog.cellsOf 9)) = some z0 := g0
    rw [cells_str] at g0
    obtain ⟨z1, ez1⟩ : ∃ y, xs[1]? = some y := ⟨xs[1]'(by omega), List.getElem?_eq_getElem _⟩
    have g1 := hf 1 _ rfl
    rw [ez1] at g1
    have g1 : DataW.trod enc Tryd.prog w base spare held m 9 (([c0, c1, c2, c3, c4, c5, c6, c7, c8, c9, c10, c11, c12, c13, c14, c15, c16, c17, c18, c19, c20].drop 1).take (Tryd.prog.cellsOf 9)) = some z1 := g1
    rw [cells_str] at g1
    obtain ⟨z2, ez2⟩ : ∃ y, xs[2]? = some y := ⟨xs[2]'(by omega), List.getElem?_eq_getElem _⟩
    have g2 := hf 2 _ rfl
    rw [ez2] at g2
    have g2 : DataW.trod enc Tryd.prog w base spare held m 9 (([c0, c1, c2, c3, c4, c5, c6, c7, c8, c9, c10, c11, c12, c13, c14, c15, c16, c17, c18, c19, c20].drop 2).take (Tryd.prog.cellsOf 9)) = some z2 := g2
    rw [cells_str] at g2
    obtain ⟨z3, ez3⟩ : ∃ y, xs[3]? = some y := ⟨xs[3]'(by omega), List.getElem?_eq_getElem _⟩
    have g3 := hf 3 _ rfl
    rw [ez3] at g3
    have g3 : DataW.trod enc Tryd.prog w base spare held m 26 (([c0, c1, c2, c3, c4, c5, c6, c7, c8, c9, c10, c11, c12, c13, c14, c15, c16, c17, c18, c19, c20].drop 3).take (Tryd.prog.cellsOf 26)) = some z3 := g3
    rw [cells_host] at g3
    obtain ⟨z4, ez4⟩ : ∃ y, xs[4]? = some y := ⟨xs[4]'(by omega), List.getElem?_eq_getElem _⟩
    have g4 := hf 4 _ rfl
    rw [ez4] at g4
    have g4 : DataW.trod enc Tryd.prog w base spare held m 3 (([c0, c1, c2, c3, c4, c5, c6, c7, c8, c9, c10, c11, c12, c13, c14, c15, c16, c17, c18, c19, c20].drop 14).take (Tryd.prog.cellsOf 3)) = some z4 := g4
    rw [cells_int] at g4
    obtain ⟨z5, ez5⟩ : ∃ y, xs[5]? = some y := ⟨xs[5]'(by omega), List.getElem?_eq_getElem _⟩
    have g5 := hf 5 _ rfl
    rw [ez5] at g5
    have g5 : DataW.trod enc Tryd.prog w base spare held m 4 (([c0, c1, c2, c3, c4, c5, c6, c7, c8, c9, c10, c11, c12, c13, c14, c15, c16, c17, c18, c19, c20].drop 15).take (Tryd.prog.cellsOf 4)) = some z5 := g5
    rw [cells_bool] at g5
    obtain ⟨z6, ez6⟩ : ∃ y, xs[6]? = some y := ⟨xs[6]'(by omega), List.getElem?_eq_getElem _⟩
    have g6 := hf 6 _ rfl
    rw [ez6] at g6
    have g6 : DataW.trod enc Tryd.prog w base spare held m 27 (([c0, c1, c2, c3, c4, c5, c6, c7, c8, c9, c10, c11, c12, c13, c14, c15, c16, c17, c18, c19, c20].drop 16).take (Tryd.prog.cellsOf 27)) = some z6 := g6
    rw [cells_strs] at g6
    obtain ⟨z7, ez7⟩ : ∃ y, xs[7]? = some y := ⟨xs[7]'(by omega), List.getElem?_eq_getElem _⟩
    have g7 := hf 7 _ rfl
    rw [ez7] at g7
    have g7 : DataW.trod enc Tryd.prog w base spare held m 4 (([c0, c1, c2, c3, c4, c5, c6, c7, c8, c9, c10, c11, c12, c13, c14, c15, c16, c17, c18, c19, c20].drop 17).take (Tryd.prog.cellsOf 4)) = some z7 := g7
    rw [cells_bool] at g7
    obtain ⟨z8, ez8⟩ : ∃ y, xs[8]? = some y := ⟨xs[8]'(by omega), List.getElem?_eq_getElem _⟩
    have g8 := hf 8 _ rfl
    rw [ez8] at g8
    have g8 : DataW.trod enc Tryd.prog w base spare held m 9 (([c0, c1, c2, c3, c4, c5, c6, c7, c8, c9, c10, c11, c12, c13, c14, c15, c16, c17, c18, c19, c20].drop 18).take (Tryd.prog.cellsOf 9)) = some z8 := g8
    rw [cells_str] at g8
    obtain ⟨z9, ez9⟩ : ∃ y, xs[9]? = some y := ⟨xs[9]'(by omega), List.getElem?_eq_getElem _⟩
    have g9 := hf 9 _ rfl
    rw [ez9] at g9
    have g9 : DataW.trod enc Tryd.prog w base spare held m 4 (([c0, c1, c2, c3, c4, c5, c6, c7, c8, c9, c10, c11, c12, c13, c14, c15, c16, c17, c18, c19, c20].drop 19).take (Tryd.prog.cellsOf 4)) = some z9 := g9
    rw [cells_bool] at g9
    obtain ⟨z10, ez10⟩ : ∃ y, xs[10]? = some y := ⟨xs[10]'(by omega), List.getElem?_eq_getElem _⟩
    have g10 := hf 10 _ rfl
    rw [ez10] at g10
    have g10 : DataW.trod enc Tryd.prog w base spare held m 9 (([c0, c1, c2, c3, c4, c5, c6, c7, c8, c9, c10, c11, c12, c13, c14, c15, c16, c17, c18, c19, c20].drop 20).take (Tryd.prog.cellsOf 9)) = some z10 := g10
    rw [cells_str] at g10
    obtain ⟨s0, e0, _⟩ := DataW.trod_string Tryd.underlying9 g0
    obtain ⟨s1, e1, _⟩ := DataW.trod_string Tryd.underlying9 g1
    obtain ⟨s2, e2, _⟩ := DataW.trod_string Tryd.underlying9 g2
    obtain ⟨s4, e4, _, q4⟩ := DataW.trod_int Tryd.underlying3 g4
    obtain ⟨s5, e5, _⟩ := DataW.trod_bool Tryd.underlying4 g5
    obtain ⟨s7, e7, _⟩ := DataW.trod_bool Tryd.underlying4 g7
    obtain ⟨s8, e8, _⟩ := DataW.trod_string Tryd.underlying9 g8
    obtain ⟨s9, e9, _⟩ := DataW.trod_bool Tryd.underlying4 g9
    obtain ⟨s10, e10, _⟩ := DataW.trod_string Tryd.underlying9 g10
    have q4 := wf_i64r q4
    obtain ⟨h, e3, hh⟩ := host_cells m _ z3 rfl g3
    obtain ⟨A, c, l, e6, h1, h2, h3, _⟩ := open_rows_csS textC 1 (fun _ _ => True) Tryd.underlying27 (by kernel_rfl) (by omega) str_cellS g6
    simp only [List.drop_zero, List.take_succ_cons, List.take_zero, List.drop_succ_cons, List.cons.injEq, and_true] at e0 e1 e2 e4 e5 e7 e8 e9 e10
    simp only [List.drop_zero, List.take_succ_cons, List.take_zero, List.drop_succ_cons] at e3
    subst e0 e1 e2 e4 e5 e6 e7 e8 e9 e10
    refine ⟨⟨s0, s1, s2, h, s4, s5, l, s7, s8, s9, s10⟩, A, c, ?_, ⟨hh, q4.1, q4.2⟩, h1, h2, h3⟩
    show _ = [.string s0, .string s1, .string s2] ++ h.cells ++ _
    rw [← e3]
    rfl
theorem open_url {v : Value} {d : DataW H} {ps : List MemPlace} {r : Reach} {b0 : Nat} (hv : Value.okWide Tryd.prog w r b0 29 v) (h : DataW.Trod enc Tryd.prog w base spare held 29 v d ps) :
    ∃ (u : UrlV) (A : Option Addr) (c : Nat), v = .agg (u.cells A c).toArray ∧ u.ok ∧ u.path.length ≤ c ∧ c ≤ maxLen ∧ RowAt textC 1 w A u.path := by
  obtain ⟨cs, rfl, hsz⟩ : ∃ cs, v = .agg cs ∧ cs.size = 21 := by
    cases v <;> simp [Value.okWide, Tryd.underlying29, cells_url] at hv
    exact ⟨_, rfl, hv.1⟩
  obtain ⟨l⟩ := cs
  obtain ⟨fuel, hf⟩ := h
  obtain ⟨u, A, c, e, h1, h2, h3, h4⟩ := url_cells fuel l _ hsz hf
  exact ⟨u, A, c, by rw [e], h1, h2, h3, h4⟩
theorem open_host {v : Value} {d : DataW H} {ps : List MemPlace} {r : Reach} {b0 : Nat} (hv : Value.okWide Tryd.prog w r b0 26 v) (h : DataW.Trod enc Tryd.prog w base spare held 26 v d ps) :
    ∃ (u : HostV), v = .agg u.cells.toArray ∧ u.ok := by
  obtain ⟨cs, rfl, hsz⟩ : ∃ cs, v = .agg cs ∧ cs.size = 11 := by
    cases v <;> simp [Value.okWide, Tryd.underlying26, cells_host] at hv
    exact ⟨_, rfl, hv.1⟩
  obtain ⟨l⟩ := cs
  obtain ⟨fuel, hf⟩ := h
  obtain ⟨u, e, h1⟩ := host_cells fuel l _ hsz hf
  exact ⟨u, by rw [e], h1⟩
end
end Go.Proofs.YtgljkgkmbfhgiaaDoor
