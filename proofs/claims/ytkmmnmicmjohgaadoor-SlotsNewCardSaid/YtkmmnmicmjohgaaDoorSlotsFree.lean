/- (*Slots).free. -/
import Derived.Test.YtkmmnmicmjohgaaDoorSlots
set_option linter.unusedVariables false
set_option linter.unusedSimpArgs false
namespace Go.Proofs.YtkmmnmicmjohgaaDoor
open Go.RowKit Slots

theorem slots_free_last {w : World} {b g : Nat} {s : St} (h : At w b g s) {n : Nat} {c : Cell} (hc : s.sl[n]? = some c) (hlast : c.gen = s.last) (hv : 0 ≤ s.live ∧ s.live ≤ 1000000) :
    Calls Tryd.prog 36 #[.pointer (some ⟨b, 0, none⟩), .int .i64 n] w fun e w' => e = .returned (.tuple #[]) ∧ At w' b g (s.freed n) ∧ Fr w w' (fun i => i = b ∨ i = g) := by
  have hbs := h.blk.lt
  have hgs := h.row.lt
  have b0 := h.blk.cell 0
  have b1 := h.blk.cell 1
  have b2 := h.blk.cell 2
  have b3 := h.blk.cell 3
  have b4 := h.blk.cell 4
  have r0 := h.cell hc 0 (by omega)
  have r1 := h.cell hc 1 (by omega)
  have r2 := h.cell hc 2 (by omega)
  have fb' : ∀ i, w.frozen? ⟨b, i, none⟩ = false := h.blk.frozen
  have fg' : ∀ i, w.frozen? ⟨g, i, none⟩ = false := h.row.frozen
  have hne := h.ne
  have hne' : ¬ g = b := fun e => hne e.symm
  simp only [List.getElem?_toArray, List.getElem?_cons_zero, List.getElem?_cons_succ, Cell.cells, hlast, Nat.add_zero] at b0 b1 b2 b3 b4 r0 r1 r2
  have hlen : n < s.sl.length := (List.getElem?_eq_some_iff.1 hc).1
  have hle : (n : Int) < (s.sl.length : Int) := by omega
  have HH := Lib.hid h
  clear h
  go_enter Tryd.func36, Tryd.ntmps36
  go_wp2_with fail
  go_quiet (fail)
  go_wp2_with fail
  refine bodyPost_ret (v := .tuple #[]) (by simp [results, Tryd.results36, go_sem]) rfl ?_
  have hget : s.get n = c := by unfold St.get; rw [Int.toNat_natCast, hc]; rfl
  have hfree : s.freed n = { s with sl := s.sl.set n ⟨0, c.count, c.next⟩, live := s.live - 1 } := by
    unfold St.freed
    simp only [hget, Int.toNat_natCast]
    rw [if_pos hlast]
  refine ⟨rfl, ?_, ?_⟩
  · rw [hfree]
    refine ⟨hne, ?_, ?_⟩
    · have := (((HH.out.blk.set_ 4 (.int .i64 (s.live - 1))).drewN nq).far (p := ⟨g, n * 3, none⟩) hne (.int .u64 0))
      simpa using this
    · have := (((HH.out.row.far (p := ⟨b, 4, none⟩) hne' (.int .i64 (s.live - 1))).drewN nq).set_ (n * 3 + 0) (.int .u64 0))
      rw [List.setIfInBounds_toArray, flat_set cell_len s.sl n 0 c ⟨0, c.count, c.next⟩ (.int .u64 0) hc (by omega) rfl] at this
      exact this
  · exact (((Fr.refl w _).setCell (p := ⟨b, 4, none⟩) (.inl (.inl rfl)) _).drewN nq).setCell (p := ⟨g, n * 3, none⟩) (.inl (.inr rfl)) _
theorem slots_free_on {w : World} {b g : Nat} {s : St} (h : At w b g s) {n : Nat} {c : Cell} (hc : s.sl[n]? = some c) (hlast : ¬ c.gen = s.last) (hg : 0 ≤ c.gen ∧ c.gen ≤ 1000000) (hl : 0 ≤ s.left ∧ s.left ≤ 1000000) (hv : 0 ≤ s.live ∧ s.live ≤ 1000000) :
    Calls Tryd.prog 36 #[.pointer (some ⟨b, 0, none⟩), .int .i64 n] w fun e w' => e = .returned (.tuple #[]) ∧ At w' b g (s.freed n) ∧ Fr w w' (fun i => i = b ∨ i = g) := by
  have hbs := h.blk.lt
  have hgs := h.row.lt
  have b0 := h.blk.cell 0
  have b1 := h.blk.cell 1
  have b2 := h.blk.cell 2
  have b3 := h.blk.cell 3
  have b4 := h.blk.cell 4
  have r0 := h.cell hc 0 (by omega)
  have r1 := h.cell hc 1 (by omega)
  have r2 := h.cell hc 2 (by omega)
  have fb' : ∀ i, w.frozen? ⟨b, i, none⟩ = false := h.blk.frozen
  have fg' : ∀ i, w.frozen? ⟨g, i, none⟩ = false := h.row.frozen
  have hne := h.ne
  have hne' : ¬ g = b := fun e => hne e.symm
  simp only [List.getElem?_toArray, List.getElem?_cons_zero, List.getElem?_cons_succ, Cell.cells, Nat.add_zero] at b0 b1 b2 b3 b4 r0 r1 r2
  have hlen : n < s.sl.length := (List.getElem?_eq_some_iff.1 hc).1
  have hle : (n : Int) < (s.sl.length : Int) := by omega
  have HH := Lib.hid h
  clear h
  go_enter Tryd.func36, Tryd.ntmps36
  go_wp2_with fail
  go_quiet (fail)
  go_wp2_with fail
  go_end0
  have hget : s.get n = c := by unfold St.get; rw [Int.toNat_natCast, hc]; rfl
  have hfree : s.freed n = { s with sl := s.sl.set n ⟨c.gen + 1, c.count, s.head⟩, live := s.live - 1, head := n, left := s.left + 1 } := by
    unfold St.freed
    simp only [hget, Int.toNat_natCast]
    rw [if_neg hlast]
  refine ⟨rfl, ?_, ?_⟩
  · rw [hfree]
    refine ⟨hne, ?_, ?_⟩
    · have := (((((HH.out.blk.set_ 4 (.int .i64 (s.live - 1))).drewN nq).far (p := ⟨g, n * 3, none⟩) hne (.int .u64 (c.gen + 1))).far (p := ⟨g, n * 3 + 2, none⟩) hne (.int .i64 s.head)).set_ 2 (.int .i64 n)).set_ 3 (.int .i64 (s.left + 1))
      simpa using this
    · have := (((((HH.out.row.far (p := ⟨b, 4, none⟩) hne' (.int .i64 (s.live - 1))).drewN nq).set_ (n * 3 + 0) (.int .u64 (c.gen + 1))).set_ (n * 3 + 2) (.int .i64 s.head)).far (p := ⟨b, 2, none⟩) hne' (.int .i64 n)).far (p := ⟨b, 3, none⟩) hne' (.int .i64 (s.left + 1))
      have h2 : (s.sl.set n ⟨c.gen + 1, c.count, c.next⟩)[n]? = some ⟨c.gen + 1, c.count, c.next⟩ := List.getElem?_set_self hlen
      rw [List.setIfInBounds_toArray, List.setIfInBounds_toArray, flat_set cell_len s.sl n 0 c ⟨c.gen + 1, c.count, c.next⟩ (.int .u64 (c.gen + 1)) hc (by omega) rfl, flat_set cell_len _ n 2 _ ⟨c.gen + 1, c.count, s.head⟩ (.int .i64 s.head) h2 (by omega) rfl, List.set_set] at this
      exact this
  · exact (((((Fr.refl w _).setCell (p := ⟨b, 4, none⟩) (.inl (.inl rfl)) _).drewN nq).setCell (p := ⟨g, n * 3, none⟩) (.inl (.inr rfl)) _).setCell (p := ⟨g, n * 3 + 2, none⟩) (.inl (.inr rfl)) _).setCell (p := ⟨b, 2, none⟩) (.inl (.inl rfl)) _ |>.setCell (p := ⟨b, 3, none⟩) (.inl (.inl rfl)) _
end Go.Proofs.YtkmmnmicmjohgaaDoor
