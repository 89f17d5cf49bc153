/- slots.New. -/
import Derived.Test.YtlpjjbkpoaohnaaDoorSlotsApi
import Derived.Outline
set_option linter.unusedVariables false
set_option linter.unusedSimpArgs false
namespace Go.Proofs.YtlpjjbkpoaohnaaDoor
open Go.RowKit Slots

theorem slots_new_bad (many last : Int) (w : World) (h : many < 1 ∨ 4096 < many ∨ last = 0) :
    Calls Tryd.prog 24 #[.int .i64 many, .int .u64 last] w fun e w' => (∃ v, e = .returned (.tuple #[.pointer none, v]) ∧ Chain w' [slotsB] v 1) ∧ Below w.heap.size w w' := by
  by_cases h1 : many < 1
  · go_enter Tryd.func24, Tryd.ntmps24
    go_wp2_with fail
    refine (wrap_num _ 1 _).mono ?_
    rintro e w1 ⟨N, rfl, hc, hb⟩
    have HC := Lib.hid hc
    have HB := Lib.hid hb
    clear hc hb
    go_wp2_with fail
    go_ret2
    exact ⟨⟨_, rfl, HC.out⟩, HB.out⟩
  by_cases h2 : 4096 < many
  · go_enter Tryd.func24, Tryd.ntmps24
    go_wp2_with fail
    refine (wrap_num _ 1 _).mono ?_
    rintro e w1 ⟨N, rfl, hc, hb⟩
    have HC := Lib.hid hc
    have HB := Lib.hid hb
    clear hc hb
    go_wp2_with fail
    go_ret2
    exact ⟨⟨_, rfl, HC.out⟩, HB.out⟩
  obtain rfl : last = 0 := by omega
  · go_enter Tryd.func24, Tryd.ntmps24
    go_wp2_with fail
    refine (wrap_num _ 1 _).mono ?_
    rintro e w1 ⟨N, rfl, hc, hb⟩
    have HC := Lib.hid hc
    have HB := Lib.hid hb
    clear hc hb
    go_wp2_with fail
    go_ret2
    exact ⟨⟨_, rfl, HC.out⟩, HB.out⟩

/-- A row of zeros, of so many slots. -/
def zeroRow (many : Nat) : Array Value := ((List.replicate many (⟨0, 0, 0⟩ : Cell)).flatMap Cell.cells).toArray
theorem made_row (many : Nat) : madeCells #[.int .u64 0, .int .i64 0, .int .i64 0] (many * 3) = zeroRow many := by
  apply Array.ext'
  simp only [zeroRow, madeCells, Array.toList_map, Array.toList_range]
  induction many with
  | zero => rfl
  | succ m ih =>
    rw [Nat.add_mul, Nat.one_mul, List.range_add, List.map_append, ih, List.replicate_succ']
    simp only [List.flatMap_append]
    congr 1
    simp [List.range_succ, Cell.cells, Nat.add_mod]
theorem info120 : (Tryd.prog.info? 120).map (fun i => (i.zero, i.size, i.bytes)) = some (some (.agg #[.int .u64 0, .int .i64 0, .int .i64 0]), 3, 24) := by kernel_rfl
theorem make_slots (many : Nat) (h : many ≤ 4096) : ∀ W : World, (Instr.makeSlice 116 (.int .i64 (many : Int)) (.int .i64 (many : Int))).run Tryd.prog W = .ok (.slice (some ⟨W.heap.size, 0, none⟩) many many) (W.alloc (.cells (zeroRow many) 120)) := by
  intro W
  obtain ⟨i0, hi, hz⟩ := Option.map_eq_some_iff.1 info120
  simp only [Prod.mk.injEq] at hz
  have := run_make (P := Tryd.prog) W 116 120 i0 _ Tryd.underlying116 hi hz.1 .i64 .i64 many many (by omega) (Int.le_refl _) (by rw [hz.2.2]; omega) (by omega)
  rw [hz.2.1] at this
  simp only [Int.toNat_natCast, Value.cells] at this
  rw [this, made_row]

/-- The row when i slots are laid. -/
def laying (many i : Nat) : List Cell := (List.range i).map (fun i : Nat => (⟨1, 0, (i : Int) + 1⟩ : Cell)) ++ List.replicate (many - i) ⟨0, 0, 0⟩
theorem laying_zero (many : Nat) : laying many 0 = List.replicate many ⟨0, 0, 0⟩ := by simp [laying]
theorem laying_all (many : Nat) (last : Int) : laying many many = (newSt many last).sl := by simp [laying, newSt]
theorem laying_len {many i : Nat} (h : i ≤ many) : (laying many i).length = many := by simp [laying]; omega
theorem laying_set {many i : Nat} (h : i < many) : (laying many i).set i ⟨1, 0, (i : Int) + 1⟩ = laying many (i + 1) := by
  unfold laying
  rw [List.set_append_right _ _ (by simp), List.range_succ, List.map_append]
  obtain ⟨k, hk⟩ : ∃ k, many - i = k + 1 := ⟨many - i - 1, by omega⟩
  rw [hk, show many - (i + 1) = k by omega]
  simp [List.replicate_succ]
theorem laying_at {many i : Nat} (h : i < many) : (laying many i)[i]? = some ⟨0, 0, 0⟩ := by
  unfold laying
  rw [List.getElem?_append_right (by simp)]
  simp [List.getElem?_replicate]; omega

set_option maxHeartbeats 2000000 in
theorem slots_new_ok (many : Nat) (last : Int) (w : World) (h1 : 1 ≤ many) (h2 : many ≤ 4096) (h3 : 1 ≤ last) :
    Calls Tryd.prog 24 #[.int .i64 many, .int .u64 last] w fun e w' => (∃ b g, e = .returned (.tuple #[.pointer (some ⟨b, 0, none⟩), .nilIface]) ∧ At w' b g (newSt many last) ∧ w.heap.size ≤ b ∧ w.heap.size ≤ g) ∧ Below w.heap.size w w' := by
  have e1 : ((last : Int) == 0) = false := by simp; omega
  have e2 : decide ((many : Int) < 1) = false := by simp; omega
  have e3 : decide ((4096 : Int) < many) = false := by simp; omega
  have hmk := make_slots many h2
  go_enter Tryd.func24, Tryd.ntmps24
  go_wp2
  obtain ⟨W0, hW0⟩ : ∃ W0, W0 = (w.alloc (Obj.cells (zeroRow many) 120)).alloc (Obj.cells #[Value.slice (some { block := w.heap.size, off := 0 }) many many, Value.int IntKind.u64 last, Value.int IntKind.i64 0, Value.int IntKind.i64 ↑many, Value.int IntKind.i64 0] 118) := ⟨_, rfl⟩
  have hB0 : Below w.heap.size w W0 := by rw [hW0]; exact ((Below.refl _ _).alloc (Nat.le_refl _) _).alloc (by simp) _
  have hg0 : Blk W0 w.heap.size 120 ((laying many 0).flatMap Cell.cells).toArray := by rw [hW0, laying_zero]; exact (Blk.new w _ _).alloc _
  have hb0 : Blk W0 (w.heap.size + 1) 118 #[Value.slice (some { block := w.heap.size, off := 0 }) many many, Value.int IntKind.u64 last, Value.int IntKind.i64 0, Value.int IntKind.i64 ↑many, Value.int IntKind.i64 0] := by
    rw [hW0]
    have := Blk.new (w.alloc (Obj.cells (zeroRow many) 120)) 118 #[Value.slice (some { block := w.heap.size, off := 0 }) many many, Value.int IntKind.u64 last, Value.int IntKind.i64 0, Value.int IntKind.i64 ↑many, Value.int IntKind.i64 0]
    simpa using this
  have HB0 := Lib.hid hB0
  have HG0 := Lib.hid hg0
  have Hb0 := Lib.hid hb0
  rw [← hW0]
  clear hB0 hg0 hb0 hW0 hmk e1 e2 e3
  go_loopw [31, 7] (fun i _ wr => ∃ k : Nat, k ≤ many ∧ i = .int .i64 k ∧ Hid (Below w.heap.size w wr ∧ Blk wr w.heap.size 120 ((laying many k).flatMap Cell.cells).toArray ∧ Blk wr (w.heap.size + 1) 118 #[Value.slice (some { block := w.heap.size, off := 0 }) many many, Value.int IntKind.u64 last, Value.int IntKind.i64 0, Value.int IntKind.i64 ↑many, Value.int IntKind.i64 0])) (fun i _ _ => many - (intOf i).toNat)
  case atStart => exact ⟨0, Nat.zero_le _, rfl, Lib.hid ⟨HB0.out, HG0.out, Hb0.out⟩⟩
  case round =>
    obtain ⟨k, hk, rfl, HH⟩ := hrel
    clear HB0 HG0 Hb0
    by_cases hlt : k < many
    · have b0 := HH.out.2.2.cell 0
      have g0 := HH.out.2.1.cell (k * 3)
      have g1 := HH.out.2.1.cell (k * 3 + 1)
      have g2 := HH.out.2.1.cell (k * 3 + 2)
      have gf := HH.out.2.1.frozen
      have ha := laying_at hlt
      rw [List.getElem?_toArray, show k * 3 = k * 3 + 0 from rfl, flat_get cell_len _ k 0 _ ha (by omega)] at g0
      rw [List.getElem?_toArray, flat_get cell_len _ k 1 _ ha (by omega)] at g1
      rw [List.getElem?_toArray, flat_get cell_len _ k 2 _ ha (by omega)] at g2
      simp only [List.getElem?_toArray, List.getElem?_cons_zero, List.getElem?_cons_succ, Cell.cells, Nat.add_zero] at b0 g0 g1 g2
      clear ha
      go_wp2
      go_roundw
      case rel =>
        refine ⟨k + 1, by omega, by go_num, Lib.hid ⟨((HH.out.1.setCell (by simp) _).setCell (by simp) _).setCell (by simp) _, ?_, ((HH.out.2.2.far (by simp) _).far (by simp) _).far (by simp) _⟩⟩
        have h0 := ((HH.out.2.1.set_ (k * 3 + 0) (.int .u64 1)).set_ (k * 3 + 1) (.int .i64 0)).set_ (k * 3 + 2) (.int .i64 ((k : Int) + 1))
        simp only [List.setIfInBounds_toArray] at h0
        have hl := laying_len (many := many) (i := k) (by omega)
        rw [flat_set cell_len _ k 0 _ ⟨1, 0, 0⟩ (.int .u64 1) (laying_at hlt) (by omega) rfl, flat_set cell_len _ k 1 ⟨1, 0, 0⟩ ⟨1, 0, 0⟩ (.int .i64 0) (List.getElem?_set_self (by omega)) (by omega) rfl, flat_set cell_len _ k 2 ⟨1, 0, 0⟩ ⟨1, 0, (k : Int) + 1⟩ (.int .i64 ((k : Int) + 1)) (List.getElem?_set_self (by rw [List.length_set]; omega)) (by omega) rfl, List.set_set, List.set_set, laying_set hlt] at h0
        exact h0
      case measure => simp [intOf]; omega
    · obtain rfl : k = many := by omega
      go_wp2
      go_ret2
      refine ⟨⟨_, _, rfl, ⟨by omega, ?_, ?_⟩, by omega, Nat.le_refl _⟩, HH.out.1⟩
      · have := HH.out.2.2
        rw [show (newSt k last).sl.length = k by simp [newSt]]
        exact this
      · rw [← laying_all k last]
        exact HH.out.2.1
end Go.Proofs.YtlpjjbkpoaohnaaDoor
