/- (*Slots).free. (*Slots).with, Add, Drop, Count. (*Slots).with at a live handle. -/
import Derived.Test.YtlpjjbkpoaohnaaDoorSlots
set_option linter.unusedVariables false
set_option linter.unusedSimpArgs false
namespace Go.Proofs.YtlpjjbkpoaohnaaDoor
open Go.RowKit Slots

theorem slots_free_last {w : World} {b g : Nat} {s : St} (h : At w b g s) {n : Nat} {c : Cell} (hc : s.sl[n]? = some c) (hlast : c.gen = s.last) (hv : 0 ≤ s.live ∧ s.live ≤ 1000000) :
    Calls Tryd.prog 66 #[.pointer (some ⟨b, 0, none⟩), .int .i64 n] w fun e w' => e = .returned (.tuple #[]) ∧ At w' b g (s.freed n) ∧ Fr w w' (fun i => i = b ∨ i = g) := by
  have hbs := h.blk.lt
  have hgs := h.row.lt
  have b0 := h.blk.cell 0
  have b1 := h.blk.cell 1
  have b2 := h.blk.cell 2
  have b3 := h.blk.cell 3
  have b4 := h.blk.cell 4
  have r0 := h.cell hc 0 (by omega)
  have r1 := h.cell hc 1 (by omega)
  have r2 := h.cell hc 2 (by omega)
  have fb' : ∀ i, w.frozen? ⟨b, i, none⟩ = false := h.blk.frozen
  have fg' : ∀ i, w.frozen? ⟨g, i, none⟩ = false := h.row.frozen
  have hne := h.ne
  have hne' : ¬ g = b := fun e => hne e.symm
  simp only [List.getElem?_toArray, List.getElem?_cons_zero, List.getElem?_cons_succ, Cell.cells, hlast, Nat.add_zero] at b0 b1 b2 b3 b4 r0 r1 r2
  have hlen : n < s.sl.length := (List.getElem?_eq_some_iff.1 hc).1
  have hle : (n : Int) < (s.sl.length : Int) := by omega
  have HH := Lib.hid h
  clear h
  go_enter Tryd.func66, Tryd.ntmps66
  go_wp2_with fail
  go_quiet (fail)
  go_wp2_with fail
  refine bodyPost_ret (v := .tuple #[]) (by simp [results, Tryd.results66, go_sem]) rfl ?_
  have hget : s.get n = c := by unfold St.get; rw [Int.toNat_natCast, hc]; rfl
  have hfree : s.freed n = { s with sl := s.sl.set n ⟨0, c.count, c.next⟩, live := s.live - 1 } := by
    unfold St.freed
    simp only [hget, Int.toNat_natCast]
    rw [if_pos hlast]
  refine ⟨rfl, ?_, ?_⟩
  · rw [hfree]
    refine ⟨hne, ?_, ?_⟩
    · have := (((HH.out.blk.set_ 4 (.int .i64 (s.live - 1))).drewN nq).far (p := ⟨g, n * 3, none⟩) hne (.int .u64 0))
      simpa using this
    · have := (((HH.out.row.far (p := ⟨b, 4, none⟩) hne' (.int .i64 (s.live - 1))).drewN nq).set_ (n * 3 + 0) (.int .u64 0))
      rw [List.setIfInBounds_toArray, flat_set cell_len s.sl n 0 c ⟨0, c.count, c.next⟩ (.int .u64 0) hc (by omega) rfl] at this
      exact this
  · exact (((Fr.refl w _).setCell (p := ⟨b, 4, none⟩) (.inl (.inl rfl)) _).drewN nq).setCell (p := ⟨g, n * 3, none⟩) (.inl (.inr rfl)) _
theorem slots_free_on {w : World} {b g : Nat} {s : St} (h : At w b g s) {n : Nat} {c : Cell} (hc : s.sl[n]? = some c) (hlast : ¬ c.gen = s.last) (hg : 0 ≤ c.gen ∧ c.gen ≤ 1000000) (hl : 0 ≤ s.left ∧ s.left ≤ 1000000) (hv : 0 ≤ s.live ∧ s.live ≤ 1000000) :
    Calls Tryd.prog 66 #[.pointer (some ⟨b, 0, none⟩), .int .i64 n] w fun e w' => e = .returned (.tuple #[]) ∧ At w' b g (s.freed n) ∧ Fr w w' (fun i => i = b ∨ i = g) := by
  have hbs := h.blk.lt
  have hgs := h.row.lt
  have b0 := h.blk.cell 0
  have b1 := h.blk.cell 1
  have b2 := h.blk.cell 2
  have b3 := h.blk.cell 3
  have b4 := h.blk.cell 4
  have r0 := h.cell hc 0 (by omega)
  have r1 := h.cell hc 1 (by omega)
  have r2 := h.cell hc 2 (by omega)
  have fb' : ∀ i, w.frozen? ⟨b, i, none⟩ = false := h.blk.frozen
  have fg' : ∀ i, w.frozen? ⟨g, i, none⟩ = false := h.row.frozen
  have hne := h.ne
  have hne' : ¬ g = b := fun e => hne e.symm
  simp only [List.getElem?_toArray, List.getElem?_cons_zero, List.getElem?_cons_succ, Cell.cells, Nat.add_zero] at b0 b1 b2 b3 b4 r0 r1 r2
  have hlen : n < s.sl.length := (List.getElem?_eq_some_iff.1 hc).1
  have hle : (n : Int) < (s.sl.length : Int) := by omega
  have HH := Lib.hid h
  clear h
  go_enter Tryd.func66, Tryd.ntmps66
  go_wp2_with fail
  go_quiet (fail)
  go_wp2_with fail
  go_end0
  have hget : s.get n = c := by unfold St.get; rw [Int.toNat_natCast, hc]; rfl
  have hfree : s.freed n = { s with sl := s.sl.set n ⟨c.gen + 1, c.count, s.head⟩, live := s.live - 1, head := n, left := s.left + 1 } := by
    unfold St.freed
    simp only [hget, Int.toNat_natCast]
    rw [if_neg hlast]
  refine ⟨rfl, ?_, ?_⟩
  · rw [hfree]
    refine ⟨hne, ?_, ?_⟩
    · have := (((((HH.out.blk.set_ 4 (.int .i64 (s.live - 1))).drewN nq).far (p := ⟨g, n * 3, none⟩) hne (.int .u64 (c.gen + 1))).far (p := ⟨g, n * 3 + 2, none⟩) hne (.int .i64 s.head)).set_ 2 (.int .i64 n)).set_ 3 (.int .i64 (s.left + 1))
      simpa using this
    · have := (((((HH.out.row.far (p := ⟨b, 4, none⟩) hne' (.int .i64 (s.live - 1))).drewN nq).set_ (n * 3 + 0) (.int .u64 (c.gen + 1))).set_ (n * 3 + 2) (.int .i64 s.head)).far (p := ⟨b, 2, none⟩) hne' (.int .i64 n)).far (p := ⟨b, 3, none⟩) hne' (.int .i64 (s.left + 1))
      have h2 : (s.sl.set n ⟨c.gen + 1, c.count, c.next⟩)[n]? = some ⟨c.gen + 1, c.count, c.next⟩ := List.getElem?_set_self hlen
      rw [List.setIfInBounds_toArray, List.setIfInBounds_toArray, flat_set cell_len s.sl n 0 c ⟨c.gen + 1, c.count, c.next⟩ (.int .u64 (c.gen + 1)) hc (by omega) rfl, flat_set cell_len _ n 2 _ ⟨c.gen + 1, c.count, s.head⟩ (.int .i64 s.head) h2 (by omega) rfl, List.set_set] at this
      exact this
  · exact (((((Fr.refl w _).setCell (p := ⟨b, 4, none⟩) (.inl (.inl rfl)) _).drewN nq).setCell (p := ⟨g, n * 3, none⟩) (.inl (.inr rfl)) _).setCell (p := ⟨g, n * 3 + 2, none⟩) (.inl (.inr rfl)) _).setCell (p := ⟨b, 2, none⟩) (.inl (.inl rfl)) _ |>.setCell (p := ⟨b, 3, none⟩) (.inl (.inl rfl)) _
end Go.Proofs.YtlpjjbkpoaohnaaDoor

namespace Go.Proofs.YtlpjjbkpoaohnaaDoor
open Go.RowKit Slots

/-- What is done with a slot: its count turned by d. -/
def Does (k : FuncId) (d : Int) : Prop := ∀ (w : World) (g i : Nat) (n : Int), w.cell? ⟨g, i + 1, none⟩ = some (.int .i64 n) → w.frozen? ⟨g, i + 1, none⟩ = false → 0 ≤ n → n ≤ 1000000 →
  Calls Tryd.prog k #[.pointer (some ⟨g, i, none⟩)] w fun e w' => e = .returned (.tuple #[]) ∧ (w' = w ∧ d = 0 ∨ w' = w.setCell ⟨g, i + 1, none⟩ (.int .i64 (n + d)))
theorem does_add : Does 55 1 := by
  intro w g i n hc hf h0 h1
  go_enter Tryd.func55, Tryd.ntmps55
  go_wp2
  go_end0
  exact ⟨rfl, .inr rfl⟩
theorem does_drop : Does 56 (-1) := by
  intro w g i n hc hf h0 h1
  go_enter Tryd.func56, Tryd.ntmps56
  go_wp2
  go_end0
  exact ⟨rfl, .inr rfl⟩
theorem does_count : Does 65 0 := by
  intro w g i n hc hf h0 h1
  go_enter Tryd.func65, Tryd.ntmps65
  go_wp2
  go_end0
  exact ⟨rfl, .inl ⟨rfl, trivial⟩⟩
set_option maxHeartbeats 2000000 in
theorem slots_with_stale {w : World} {b g : Nat} {s : St} (h : At w b g s) (a : Int × Int) (ha : ¬ s.ok a) (fv : Value) :
    Calls Tryd.prog 54 #[.pointer (some ⟨b, 0, none⟩), .agg #[.int .i64 a.1, .int .u64 a.2], fv] w fun e w' => (∃ v, e = .returned (.tuple #[.int .i64 0, v]) ∧ Chain w' [slotsB] v 7) ∧ Below w.heap.size w w' := by
  obtain ⟨i, gen⟩ := a
  have hb0 := Blk.new w 50 #[.int .i64 i, .int .u64 gen]
  have HB0 := Lib.hid hb0
  have hA : At (w.alloc (.cells #[.int .i64 i, .int .u64 gen] 50)) b g s := ⟨h.ne, h.blk.alloc _, h.row.alloc _⟩
  have HA := Lib.hid hA
  have H0 := Lib.hid ((Below.refl w.heap.size w).alloc (Nat.le_refl _) (.cells #[.int .i64 i, .int .u64 gen] 50))
  clear hb0 hA
  have HH := Lib.hid h
  clear h
  by_cases hi : i < 0
  · go_enter Tryd.func54, Tryd.ntmps54
    go_wp2_with fail
    generalize w.alloc (.cells #[.int .i64 i, .int .u64 gen] 50) = w0 at HB0 HA H0 ⊢
    have c0 := HB0.out.cell 0
    have c1 := HB0.out.cell 1
    have b0 := HA.out.blk.cell 0
    simp only [List.getElem?_toArray, List.getElem?_cons_zero, List.getElem?_cons_succ] at c0 c1 b0
    go_quiet (fail)
    go_wp2_with fail
    refine (wrap_num _ 7 _).mono ?_
    rintro e w1 ⟨N, rfl, hc, hb⟩
    have HC := Lib.hid hc
    have H1 := Lib.hid (belowOn (H0.out.drewN nq) H0.out.size hb)
    clear hc hb
    go_wp2_with fail
    go_ret2
    exact ⟨⟨_, rfl, HC.out⟩, H1.out⟩
  by_cases hi2 : (s.sl.length : Int) ≤ i
  · go_enter Tryd.func54, Tryd.ntmps54
    go_wp2_with fail
    generalize w.alloc (.cells #[.int .i64 i, .int .u64 gen] 50) = w0 at HB0 HA H0 ⊢
    have c0 := HB0.out.cell 0
    have c1 := HB0.out.cell 1
    have b0 := HA.out.blk.cell 0
    simp only [List.getElem?_toArray, List.getElem?_cons_zero, List.getElem?_cons_succ] at c0 c1 b0
    go_quiet (fail)
    go_wp2_with fail
    refine (wrap_num _ 7 _).mono ?_
    rintro e w1 ⟨N, rfl, hc, hb⟩
    have HC := Lib.hid hc
    have H1 := Lib.hid (belowOn (H0.out.drewN nq) H0.out.size hb)
    clear hc hb
    go_wp2_with fail
    go_ret2
    exact ⟨⟨_, rfl, HC.out⟩, H1.out⟩
  obtain ⟨n, rfl⟩ := Int.eq_ofNat_of_zero_le (show 0 ≤ i by omega)
  obtain ⟨c, hc⟩ : ∃ c, s.sl[n]? = some c := ⟨_, List.getElem?_eq_getElem (by omega)⟩
  have hget : s.get n = c := by unfold St.get; rw [Int.toNat_natCast, hc]; rfl
  have hbad : c.count = 0 ∨ c.count ≠ 0 ∧ c.gen ≠ gen := by
    by_cases h0 : c.count = 0
    · exact .inl h0
    · refine .inr ⟨h0, fun e => ha ⟨by show (0 : Int) ≤ n; omega, by show (n : Int) < _; omega, ?_, ?_⟩⟩
      · show (s.get n).count ≠ 0; rw [hget]; exact h0
      · show (s.get n).gen = gen; rw [hget]; exact e
  rcases hbad with h0 | ⟨h0, h1⟩
  · go_enter Tryd.func54, Tryd.ntmps54
    go_wp2_with fail
    generalize w.alloc (.cells #[.int .i64 (n : Int), .int .u64 gen] 50) = w0 at HB0 HA H0 ⊢
    have c0 := HB0.out.cell 0
    have c1 := HB0.out.cell 1
    have b0 := HA.out.blk.cell 0
    have r0 := HA.out.cell hc 0 (by omega)
    have r1 := HA.out.cell hc 1 (by omega)
    simp only [List.getElem?_toArray, List.getElem?_cons_zero, List.getElem?_cons_succ, Cell.cells, Nat.add_zero] at c0 c1 b0 r0 r1
    have hl2 : (n : Int) < (s.sl.length : Int) := by omega
    go_quiet (fail)
    go_wp2_with fail
    go_quiet (fail)
    go_wp2_with fail
    go_quiet (fail)
    go_wp2_with fail
    refine (wrap_num _ 7 _).mono ?_
    rintro e w1 ⟨N, rfl, hc, hb⟩
    have HC := Lib.hid hc
    have H1 := Lib.hid (belowOn (H0.out.drewN _) H0.out.size hb)
    clear hc hb
    go_wp2_with fail
    go_ret2
    exact ⟨⟨_, rfl, HC.out⟩, H1.out⟩
  · go_enter Tryd.func54, Tryd.ntmps54
    go_wp2_with fail
    generalize w.alloc (.cells #[.int .i64 (n : Int), .int .u64 gen] 50) = w0 at HB0 HA H0 ⊢
    have c0 := HB0.out.cell 0
    have c1 := HB0.out.cell 1
    have b0 := HA.out.blk.cell 0
    have r0 := HA.out.cell hc 0 (by omega)
    have r1 := HA.out.cell hc 1 (by omega)
    simp only [List.getElem?_toArray, List.getElem?_cons_zero, List.getElem?_cons_succ, Cell.cells, Nat.add_zero] at c0 c1 b0 r0 r1
    have hl2 : (n : Int) < (s.sl.length : Int) := by omega
    go_quiet (fail)
    go_wp2_with fail
    go_quiet (fail)
    go_wp2_with fail
    have cb : (c.count == 0) = false := by simpa using h0
    have cg : (c.gen == gen) = false := by simpa using h1
    go_quiet (fail)
    go_wp2_with fail
    refine (wrap_num _ 7 _).mono ?_
    rintro e w1 ⟨N, rfl, hc, hb⟩
    have HC := Lib.hid hc
    have H1 := Lib.hid (belowOn (H0.out.drewN _) H0.out.size hb)
    clear hc hb
    go_wp2_with fail
    go_ret2
    exact ⟨⟨_, rfl, HC.out⟩, H1.out⟩
end Go.Proofs.YtlpjjbkpoaohnaaDoor

namespace Go.Proofs.YtlpjjbkpoaohnaaDoor
open Go.RowKit Slots

theorem done_at {w w0 w1 : World} {b g : Nat} {s : St} {n m : Nat} {c : Cell} {d : Int} {T : TypeId} {vs : Array Value} (h : At w0 b g s) (hf : Fr w w0 (fun i => i = b ∨ i = g)) (hB : Blk w0 w.heap.size T vs) (hc : s.sl[n]? = some c)
    (hw : w1 = w0.drewN m ∧ d = 0 ∨ w1 = (w0.drewN m).setCell ⟨g, n * 3 + 1, none⟩ (.int .i64 (c.count + d))) (hb : b < w.heap.size) (hg : g < w.heap.size) :
    At w1 b g { s with sl := s.sl.set n ⟨c.gen, c.count + d, c.next⟩ } ∧ Fr w w1 (fun i => i = b ∨ i = g) ∧ Blk w1 w.heap.size T vs := by
  have hlen : n < s.sl.length := (List.getElem?_eq_some_iff.1 hc).1
  rcases hw with ⟨rfl, rfl⟩ | rfl
  · have hs : s.sl.set n ⟨c.gen, c.count + 0, c.next⟩ = s.sl := by
      rw [Int.add_zero]
      apply List.ext_getElem?
      intro j
      by_cases e : n = j
      · subst e; rw [List.getElem?_set_self hlen, hc]
      · rw [List.getElem?_set_ne e]
    rw [hs]
    exact ⟨⟨h.ne, h.blk.drewN m, h.row.drewN m⟩, hf.drewN m, hB.drewN m⟩
  · refine ⟨⟨h.ne, ?_, ?_⟩, (hf.drewN m).setCell (.inl (.inr rfl)) _, (hB.drewN m).far (by show w.heap.size ≠ g; omega) _⟩
    · have := (h.blk.drewN m).far (p := ⟨g, n * 3 + 1, none⟩) h.ne (.int .i64 (c.count + d))
      simpa using this
    · have := (h.row.drewN m).set_ (n * 3 + 1) (.int .i64 (c.count + d))
      rw [List.setIfInBounds_toArray, flat_set cell_len s.sl n 1 c ⟨c.gen, c.count + d, c.next⟩ (.int .i64 (c.count + d)) hc (by omega) rfl] at this
      exact this
set_option maxHeartbeats 2000000 in
theorem slots_with_add {w : World} {b g : Nat} {s : St} (h : At w b g s) {n : Nat} {c : Cell} (hc : s.sl[n]? = some c) (h0 : c.count ≠ 0) (hb : 0 ≤ c.count ∧ c.count ≤ 1000000) (hk : c.count + 1 ≠ 0) :
    Calls Tryd.prog 54 #[.pointer (some ⟨b, 0, none⟩), .agg #[.int .i64 n, .int .u64 c.gen], .func (Fn.func 55) #[] #[]] w fun e w' => e = .returned (.tuple #[.int .i64 (c.count + 1), .nilIface]) ∧ At w' b g { s with sl := s.sl.set n ⟨c.gen, c.count + 1, c.next⟩ } ∧ Fr w w' (fun i => i = b ∨ i = g) := by
  have hb0 := Blk.new w 50 #[.int .i64 n, .int .u64 c.gen]
  have HB0 := Lib.hid hb0
  have hA : At (w.alloc (.cells #[.int .i64 n, .int .u64 c.gen] 50)) b g s := ⟨h.ne, h.blk.alloc _, h.row.alloc _⟩
  have HA := Lib.hid hA
  have H0 := Lib.hid ((Fr.refl w (fun i => i = b ∨ i = g)).alloc (.cells #[.int .i64 n, .int .u64 c.gen] 50))
  have hlen : n < s.sl.length := (List.getElem?_eq_some_iff.1 hc).1
  clear hb0 hA
  have HH := Lib.hid h
  clear h
  go_enter Tryd.func54, Tryd.ntmps54
  go_wp2_with fail
  generalize w.alloc (.cells #[.int .i64 (n : Int), .int .u64 c.gen] 50) = w0 at HB0 HA H0 ⊢
  have c0 := HB0.out.cell 0
  have c1 := HB0.out.cell 1
  have b0 := HA.out.blk.cell 0
  have r0 := HA.out.cell hc 0 (by omega)
  have r1 := HA.out.cell hc 1 (by omega)
  simp only [List.getElem?_toArray, List.getElem?_cons_zero, List.getElem?_cons_succ, Cell.cells, Nat.add_zero] at c0 c1 b0 r0 r1
  have hl2 : (n : Int) < (s.sl.length : Int) := by omega
  go_quiet (fail)
  go_wp2_with fail
  go_quiet (fail)
  go_wp2_with fail
  have cb : (c.count == 0) = false := by simpa using h0
  go_quiet (fail)
  go_wp2_with fail
  refine (does_add (w0.drewN _) g (n * 3) c.count r1 (HA.out.row.frozen _) hb.1 hb.2).mono ?_
  rintro e w1 ⟨rfl, hw⟩
  have hA1 : At w1 b g { s with sl := s.sl.set n ⟨c.gen, c.count + 1, c.next⟩ } ∧ Fr w w1 (fun i => i = b ∨ i = g) ∧ Blk w1 w.heap.size 50 #[.int .i64 n, .int .u64 c.gen] := done_at HA.out H0.out HB0.out hc hw (HH.out.blk.lt) (HH.out.row.lt)
  have HA1 := Lib.hid hA1
  have hc1 : (s.sl.set n ⟨c.gen, c.count + 1, c.next⟩)[n]? = some ⟨c.gen, c.count + 1, c.next⟩ := List.getElem?_set_self hlen
  have q1 := hA1.1.cell hc1 1 (by omega)
  simp only [List.getElem?_cons_zero, List.getElem?_cons_succ, Cell.cells] at q1
  clear hA1 hw c0 c1 b0 r0 r1
  go_wp2_with fail
  go_ret2
  exact ⟨rfl, HA1.out.1, HA1.out.2.1⟩

set_option maxHeartbeats 2000000 in
theorem slots_with_drop {w : World} {b g : Nat} {s : St} (h : At w b g s) {n : Nat} {c : Cell} (hc : s.sl[n]? = some c) (h0 : c.count ≠ 0) (hb : 0 ≤ c.count ∧ c.count ≤ 1000000) (hk : c.count + (-1) ≠ 0) :
    Calls Tryd.prog 54 #[.pointer (some ⟨b, 0, none⟩), .agg #[.int .i64 n, .int .u64 c.gen], .func (Fn.func 56) #[] #[]] w fun e w' => e = .returned (.tuple #[.int .i64 (c.count + (-1)), .nilIface]) ∧ At w' b g { s with sl := s.sl.set n ⟨c.gen, c.count + (-1), c.next⟩ } ∧ Fr w w' (fun i => i = b ∨ i = g) := by
  have hb0 := Blk.new w 50 #[.int .i64 n, .int .u64 c.gen]
  have HB0 := Lib.hid hb0
  have hA : At (w.alloc (.cells #[.int .i64 n, .int .u64 c.gen] 50)) b g s := ⟨h.ne, h.blk.alloc _, h.row.alloc _⟩
  have HA := Lib.hid hA
  have H0 := Lib.hid ((Fr.refl w (fun i => i = b ∨ i = g)).alloc (.cells #[.int .i64 n, .int .u64 c.gen] 50))
  have hlen : n < s.sl.length := (List.getElem?_eq_some_iff.1 hc).1
  clear hb0 hA
  have HH := Lib.hid h
  clear h
  go_enter Tryd.func54, Tryd.ntmps54
  go_wp2_with fail
  generalize w.alloc (.cells #[.int .i64 (n : Int), .int .u64 c.gen] 50) = w0 at HB0 HA H0 ⊢
  have c0 := HB0.out.cell 0
  have c1 := HB0.out.cell 1
  have b0 := HA.out.blk.cell 0
  have r0 := HA.out.cell hc 0 (by omega)
  have r1 := HA.out.cell hc 1 (by omega)
  simp only [List.getElem?_toArray, List.getElem?_cons_zero, List.getElem?_cons_succ, Cell.cells, Nat.add_zero] at c0 c1 b0 r0 r1
  have hl2 : (n : Int) < (s.sl.length : Int) := by omega
  go_quiet (fail)
  go_wp2_with fail
  go_quiet (fail)
  go_wp2_with fail
  have cb : (c.count == 0) = false := by simpa using h0
  go_quiet (fail)
  go_wp2_with fail
  refine (does_drop (w0.drewN _) g (n * 3) c.count r1 (HA.out.row.frozen _) hb.1 hb.2).mono ?_
  rintro e w1 ⟨rfl, hw⟩
  have hA1 : At w1 b g { s with sl := s.sl.set n ⟨c.gen, c.count + (-1), c.next⟩ } ∧ Fr w w1 (fun i => i = b ∨ i = g) ∧ Blk w1 w.heap.size 50 #[.int .i64 n, .int .u64 c.gen] := done_at HA.out H0.out HB0.out hc hw (HH.out.blk.lt) (HH.out.row.lt)
  have HA1 := Lib.hid hA1
  have hc1 : (s.sl.set n ⟨c.gen, c.count + (-1), c.next⟩)[n]? = some ⟨c.gen, c.count + (-1), c.next⟩ := List.getElem?_set_self hlen
  have q1 := hA1.1.cell hc1 1 (by omega)
  simp only [List.getElem?_cons_zero, List.getElem?_cons_succ, Cell.cells] at q1
  clear hA1 hw c0 c1 b0 r0 r1
  go_wp2_with fail
  go_ret2
  exact ⟨rfl, HA1.out.1, HA1.out.2.1⟩

set_option maxHeartbeats 2000000 in
theorem slots_with_count {w : World} {b g : Nat} {s : St} (h : At w b g s) {n : Nat} {c : Cell} (hc : s.sl[n]? = some c) (h0 : c.count ≠ 0) (hb : 0 ≤ c.count ∧ c.count ≤ 1000000) (hk : c.count + 0 ≠ 0) :
    Calls Tryd.prog 54 #[.pointer (some ⟨b, 0, none⟩), .agg #[.int .i64 n, .int .u64 c.gen], .func (Fn.func 65) #[] #[]] w fun e w' => e = .returned (.tuple #[.int .i64 c.count, .nilIface]) ∧ At w' b g { s with sl := s.sl.set n ⟨c.gen, c.count + 0, c.next⟩ } ∧ Fr w w' (fun i => i = b ∨ i = g) := by
  have hb0 := Blk.new w 50 #[.int .i64 n, .int .u64 c.gen]
  have HB0 := Lib.hid hb0
  have hA : At (w.alloc (.cells #[.int .i64 n, .int .u64 c.gen] 50)) b g s := ⟨h.ne, h.blk.alloc _, h.row.alloc _⟩
  have HA := Lib.hid hA
  have H0 := Lib.hid ((Fr.refl w (fun i => i = b ∨ i = g)).alloc (.cells #[.int .i64 n, .int .u64 c.gen] 50))
  have hlen : n < s.sl.length := (List.getElem?_eq_some_iff.1 hc).1
  clear hb0 hA
  have HH := Lib.hid h
  clear h
  go_enter Tryd.func54, Tryd.ntmps54
  go_wp2_with fail
  generalize w.alloc (.cells #[.int .i64 (n : Int), .int .u64 c.gen] 50) = w0 at HB0 HA H0 ⊢
  have c0 := HB0.out.cell 0
  have c1 := HB0.out.cell 1
  have b0 := HA.out.blk.cell 0
  have r0 := HA.out.cell hc 0 (by omega)
  have r1 := HA.out.cell hc 1 (by omega)
  simp only [List.getElem?_toArray, List.getElem?_cons_zero, List.getElem?_cons_succ, Cell.cells, Nat.add_zero] at c0 c1 b0 r0 r1
  have hl2 : (n : Int) < (s.sl.length : Int) := by omega
  go_quiet (fail)
  go_wp2_with fail
  go_quiet (fail)
  go_wp2_with fail
  have cb : (c.count == 0) = false := by simpa using h0
  go_quiet (fail)
  go_wp2_with fail
  refine (does_count (w0.drewN _) g (n * 3) c.count r1 (HA.out.row.frozen _) hb.1 hb.2).mono ?_
  rintro e w1 ⟨rfl, hw⟩
  have hA1 : At w1 b g { s with sl := s.sl.set n ⟨c.gen, c.count + 0, c.next⟩ } ∧ Fr w w1 (fun i => i = b ∨ i = g) ∧ Blk w1 w.heap.size 50 #[.int .i64 n, .int .u64 c.gen] := done_at HA.out H0.out HB0.out hc hw (HH.out.blk.lt) (HH.out.row.lt)
  have HA1 := Lib.hid hA1
  have hc1 : (s.sl.set n ⟨c.gen, c.count + 0, c.next⟩)[n]? = some ⟨c.gen, c.count + 0, c.next⟩ := List.getElem?_set_self hlen
  have q1 := hA1.1.cell hc1 1 (by omega)
  simp only [List.getElem?_cons_zero, List.getElem?_cons_succ, Cell.cells] at q1
  clear hA1 hw c0 c1 b0 r0 r1
  go_wp2_with fail
  go_ret2
  exact ⟨rfl, HA1.out.1, HA1.out.2.1⟩

/-- free of what was counted down to nothing. -/
theorem slots_free_at {w : World} {b g : Nat} {s : St} (h : At w b g s) {n : Nat} {c : Cell} (hc : s.sl[n]? = some c) (hg : 0 ≤ c.gen ∧ c.gen ≤ 1000000) (hl : 0 ≤ s.left ∧ s.left ≤ 1000000) (hv : 0 ≤ s.live ∧ s.live ≤ 1000000) :
    Calls Tryd.prog 66 #[.pointer (some ⟨b, 0, none⟩), .int .i64 n] w fun e w' => e = .returned (.tuple #[]) ∧ At w' b g (s.freed n) ∧ Fr w w' (fun i => i = b ∨ i = g) := by
  by_cases hlast : c.gen = s.last
  · exact slots_free_last h hc hlast hv
  · exact slots_free_on h hc hlast hg hl hv

set_option maxHeartbeats 2000000 in
theorem slots_with_drop0 {w : World} {b g : Nat} {s : St} (h : At w b g s) {n : Nat} {c : Cell} (hc : s.sl[n]? = some c) (h0 : c.count = 1) (hg : 0 ≤ c.gen ∧ c.gen ≤ 1000000) (hl : 0 ≤ s.left ∧ s.left ≤ 1000000) (hv : 0 ≤ s.live ∧ s.live ≤ 1000000) :
    Calls Tryd.prog 54 #[.pointer (some ⟨b, 0, none⟩), .agg #[.int .i64 n, .int .u64 c.gen], .func (Fn.func 56) #[] #[]] w fun e w' => e = .returned (.tuple #[.int .i64 0, .nilIface]) ∧ At w' b g (({ s with sl := s.sl.set n ⟨c.gen, c.count + (-1), c.next⟩ } : St).freed n) ∧ Fr w w' (fun i => i = b ∨ i = g) := by
  have hb0 := Blk.new w 50 #[.int .i64 n, .int .u64 c.gen]
  have HB0 := Lib.hid hb0
  have hA : At (w.alloc (.cells #[.int .i64 n, .int .u64 c.gen] 50)) b g s := ⟨h.ne, h.blk.alloc _, h.row.alloc _⟩
  have HA := Lib.hid hA
  have H0 := Lib.hid ((Fr.refl w (fun i => i = b ∨ i = g)).alloc (.cells #[.int .i64 n, .int .u64 c.gen] 50))
  have hlen : n < s.sl.length := (List.getElem?_eq_some_iff.1 hc).1
  have HK := Lib.hid h0
  clear hb0 hA
  have HH := Lib.hid h
  clear h h0
  go_enter Tryd.func54, Tryd.ntmps54
  go_wp2_with fail
  generalize w.alloc (.cells #[.int .i64 (n : Int), .int .u64 c.gen] 50) = w0 at HB0 HA H0 ⊢
  have c0 := HB0.out.cell 0
  have c1 := HB0.out.cell 1
  have b0 := HA.out.blk.cell 0
  have r0 := HA.out.cell hc 0 (by omega)
  have r1 := HA.out.cell hc 1 (by omega)
  simp only [List.getElem?_toArray, List.getElem?_cons_zero, List.getElem?_cons_succ, Cell.cells, Nat.add_zero] at c0 c1 b0 r0 r1
  have hl2 : (n : Int) < (s.sl.length : Int) := by omega
  go_quiet (fail)
  go_wp2_with fail
  go_quiet (fail)
  go_wp2_with fail
  have cb : (c.count == 0) = false := by rw [HK.out]; rfl
  go_quiet (fail)
  go_wp2_with fail
  refine (does_drop (w0.drewN _) g (n * 3) c.count r1 (HA.out.row.frozen _) (by rw [HK.out]; decide) (by rw [HK.out]; decide)).mono ?_
  rintro e w1 ⟨rfl, hw⟩
  have hA1 : At w1 b g { s with sl := s.sl.set n ⟨c.gen, c.count + (-1), c.next⟩ } ∧ Fr w w1 (fun i => i = b ∨ i = g) ∧ Blk w1 w.heap.size 50 #[.int .i64 n, .int .u64 c.gen] := done_at HA.out H0.out HB0.out hc hw (HH.out.blk.lt) (HH.out.row.lt)
  have HA1 := Lib.hid hA1
  have hc1 : (s.sl.set n ⟨c.gen, c.count + (-1), c.next⟩)[n]? = some ⟨c.gen, c.count + (-1), c.next⟩ := List.getElem?_set_self hlen
  have q1 := hA1.1.cell hc1 1 (by omega)
  have z0 := hA1.2.2.cell 0
  simp only [List.getElem?_toArray, List.getElem?_cons_zero, List.getElem?_cons_succ, Cell.cells] at q1 z0
  rw [show c.count + -1 = 0 by rw [HK.out]; rfl] at q1
  clear hA1 hw c0 c1 b0 r0 r1
  have HC1 := Lib.hid hc1
  clear hc1
  go_wp2_with fail
  refine (slots_free_at HA1.out.1 HC1.out hg hl hv).mono ?_
  rintro e w2 ⟨rfl, hA2, hf2⟩
  have HA2 := Lib.hid hA2
  have HF2 := Lib.hid hf2
  clear hA2 hf2
  go_wp2_with fail
  go_ret2
  exact ⟨rfl, HA2.out, HA1.out.2.1.trans HF2.out (fun i hi => .inl hi)⟩

end Go.Proofs.YtlpjjbkpoaohnaaDoor
