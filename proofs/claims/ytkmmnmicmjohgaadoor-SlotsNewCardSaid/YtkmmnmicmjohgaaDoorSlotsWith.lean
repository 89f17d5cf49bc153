/- (*Slots).with, Add, Drop, Count. -/
import Derived.Test.YtkmmnmicmjohgaaDoorSlotsFree
set_option linter.unusedVariables false
set_option linter.unusedSimpArgs false
namespace Go.Proofs.YtkmmnmicmjohgaaDoor
open Go.RowKit Slots

/-- What is done with a slot: its count turned by d. -/
def Does (k : FuncId) (d : Int) : Prop := ∀ (w : World) (g i : Nat) (n : Int), w.cell? ⟨g, i + 1, none⟩ = some (.int .i64 n) → w.frozen? ⟨g, i + 1, none⟩ = false → 0 ≤ n → n ≤ 1000000 →
  Calls Tryd.prog k #[.pointer (some ⟨g, i, none⟩)] w fun e w' => e = .returned (.tuple #[]) ∧ (w' = w ∧ d = 0 ∨ w' = w.setCell ⟨g, i + 1, none⟩ (.int .i64 (n + d)))
theorem does_add : Does 31 1 := by
  intro w g i n hc hf h0 h1
  go_enter Tryd.func31, Tryd.ntmps31
  go_wp2
  go_end0
  exact ⟨rfl, .inr rfl⟩
theorem does_drop : Does 32 (-1) := by
  intro w g i n hc hf h0 h1
  go_enter Tryd.func32, Tryd.ntmps32
  go_wp2
  go_end0
  exact ⟨rfl, .inr rfl⟩
theorem does_count : Does 26 0 := by
  intro w g i n hc hf h0 h1
  go_enter Tryd.func26, Tryd.ntmps26
  go_wp2
  go_end0
  exact ⟨rfl, .inl ⟨rfl, trivial⟩⟩
set_option maxHeartbeats 2000000 in
theorem slots_with_stale {w : World} {b g : Nat} {s : St} (h : At w b g s) (a : Int × Int) (ha : ¬ s.ok a) (fv : Value) :
    Calls Tryd.prog 25 #[.pointer (some ⟨b, 0, none⟩), .agg #[.int .i64 a.1, .int .u64 a.2], fv] w fun e w' => (∃ v, e = .returned (.tuple #[.int .i64 0, v]) ∧ Chain w' [slotsB] v 7) ∧ Below w.heap.size w w' := by
  obtain ⟨i, gen⟩ := a
  have hb0 := Blk.new w 34 #[.int .i64 i, .int .u64 gen]
  have HB0 := Lib.hid hb0
  have hA : At (w.alloc (.cells #[.int .i64 i, .int .u64 gen] 34)) b g s := ⟨h.ne, h.blk.alloc _, h.row.alloc _⟩
  have HA := Lib.hid hA
  have H0 := Lib.hid ((Below.refl w.heap.size w).alloc (Nat.le_refl _) (.cells #[.int .i64 i, .int .u64 gen] 34))
  clear hb0 hA
  have HH := Lib.hid h
  clear h
  by_cases hi : i < 0
  · go_enter Tryd.func25, Tryd.ntmps25
    go_wp2_with fail
    generalize w.alloc (.cells #[.int .i64 i, .int .u64 gen] 34) = w0 at HB0 HA H0 ⊢
    have c0 := HB0.out.cell 0
    have c1 := HB0.out.cell 1
    have b0 := HA.out.blk.cell 0
    simp only [List.getElem?_toArray, List.getElem?_cons_zero, List.getElem?_cons_succ] at c0 c1 b0
    go_quiet (fail)
    go_wp2_with fail
    refine (wrap_num _ 7 _).mono ?_
    rintro e w1 ⟨N, rfl, hc, hb⟩
    have HC := Lib.hid hc
    have H1 := Lib.hid (belowOn (H0.out.drewN nq) H0.out.size hb)
    clear hc hb
    go_wp2_with fail
    go_ret2
    exact ⟨⟨_, rfl, HC.out⟩, H1.out⟩
  by_cases hi2 : (s.sl.length : Int) ≤ i
  · go_enter Tryd.func25, Tryd.ntmps25
    go_wp2_with fail
    generalize w.alloc (.cells #[.int .i64 i, .int .u64 gen] 34) = w0 at HB0 HA H0 ⊢
    have c0 := HB0.out.cell 0
    have c1 := HB0.out.cell 1
    have b0 := HA.out.blk.cell 0
    simp only [List.getElem?_toArray, List.getElem?_cons_zero, List.getElem?_cons_succ] at c0 c1 b0
    go_quiet (fail)
    go_wp2_with fail
    refine (wrap_num _ 7 _).mono ?_
    rintro e w1 ⟨N, rfl, hc, hb⟩
    have HC := Lib.hid hc
    have H1 := Lib.hid (belowOn (H0.out.drewN nq) H0.out.size hb)
    clear hc hb
    go_wp2_with fail
    go_ret2
    exact ⟨⟨_, rfl, HC.out⟩, H1.out⟩
  obtain ⟨n, rfl⟩ := Int.eq_ofNat_of_zero_le (show 0 ≤ i by omega)
  obtain ⟨c, hc⟩ : ∃ c, s.sl[n]? = some c := ⟨_, List.getElem?_eq_getElem (by omega)⟩
  have hget : s.get n = c := by unfold St.get; rw [Int.toNat_natCast, hc]; rfl
  have hbad : c.count = 0 ∨ c.count ≠ 0 ∧ c.gen ≠ gen := by
    by_cases h0 : c.count = 0
    · exact .inl h0
    · refine .inr ⟨h0, fun e => ha ⟨by show (0 : Int) ≤ n; omega, by show (n : Int) < _; omega, ?_, ?_⟩⟩
      · show (s.get n).count ≠ 0; rw [hget]; exact h0
      · show (s.get n).gen = gen; rw [hget]; exact e
  rcases hbad with h0 | ⟨h0, h1⟩
  · go_enter Tryd.func25, Tryd.ntmps25
    go_wp2_with fail
    generalize w.alloc (.cells #[.int .i64 (n : Int), .int .u64 gen] 34) = w0 at HB0 HA H0 ⊢
    have c0 := HB0.out.cell 0
    have c1 := HB0.out.cell 1
    have b0 := HA.out.blk.cell 0
    have r0 := HA.out.cell hc 0 (by omega)
    have r1 := HA.out.cell hc 1 (by omega)
    simp only [List.getElem?_toArray, List.getElem?_cons_zero, List.getElem?_cons_succ, Cell.cells, Nat.add_zero] at c0 c1 b0 r0 r1
    have hl2 : (n : Int) < (s.sl.length : Int) := by omega
    go_quiet (fail)
    go_wp2_with fail
    go_quiet (fail)
    go_wp2_with fail
    go_quiet (fail)
    go_wp2_with fail
    refine (wrap_num _ 7 _).mono ?_
    rintro e w1 ⟨N, rfl, hc, hb⟩
    have HC := Lib.hid hc
    have H1 := Lib.hid (belowOn (H0.out.drewN _) H0.out.size hb)
    clear hc hb
    go_wp2_with fail
    go_ret2
    exact ⟨⟨_, rfl, HC.out⟩, H1.out⟩
  · go_enter Tryd.func25, Tryd.ntmps25
    go_wp2_with fail
    generalize w.alloc (.cells #[.int .i64 (n : Int), .int .u64 gen] 34) = w0 at HB0 HA H0 ⊢
    have c0 := HB0.out.cell 0
    have c1 := HB0.out.cell 1
    have b0 := HA.out.blk.cell 0
    have r0 := HA.out.cell hc 0 (by omega)
    have r1 := HA.out.cell hc 1 (by omega)
    simp only [List.getElem?_toArray, List.getElem?_cons_zero, List.getElem?_cons_succ, Cell.cells, Nat.add_zero] at c0 c1 b0 r0 r1
    have hl2 : (n : Int) < (s.sl.length : Int) := by omega
    go_quiet (fail)
    go_wp2_with fail
    go_quiet (fail)
    go_wp2_with fail
    have cb : (c.count == 0) = false := by simpa using h0
    have cg : (c.gen == gen) = false := by simpa using h1
    go_quiet (fail)
    go_wp2_with fail
    refine (wrap_num _ 7 _).mono ?_
    rintro e w1 ⟨N, rfl, hc, hb⟩
    have HC := Lib.hid hc
    have H1 := Lib.hid (belowOn (H0.out.drewN _) H0.out.size hb)
    clear hc hb
    go_wp2_with fail
    go_ret2
    exact ⟨⟨_, rfl, HC.out⟩, H1.out⟩
end Go.Proofs.YtkmmnmicmjohgaaDoor
