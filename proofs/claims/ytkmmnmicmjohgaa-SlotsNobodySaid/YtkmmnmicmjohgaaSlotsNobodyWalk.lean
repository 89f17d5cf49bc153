/- SlotsNobody, walked. -/
import Derived.Test.YtkmmnmicmjohgaaSlotsAwake
set_option linter.unusedVariables false
set_option linter.unusedSimpArgs false
namespace Go.Proofs.Ytkmmnmicmjohgaa
open Go.RowKit Slots

theorem with_nil (w : World) (u v fv : Value) : Calls Try.prog 14 #[.pointer none, .agg #[u, v], fv] w fun e w' => (∃ z, e = .returned (.tuple #[.int .i64 0, z]) ∧ Chain w' [slotsB] z 1) ∧ Below w.heap.size w w' := by
  go_enter Try.func14, Try.ntmps14
  go_wp2_with fail
  refine (wrap_num _ 1 _).mono ?_
  rintro e w1 ⟨N, rfl, hc, hb⟩
  have HC := Lib.hid hc
  have HB := Lib.hid (belowOn ((Below.refl w.heap.size w).alloc (Nat.le_refl _) (.cells #[u, v] 24)) (by simp) hb)
  clear hc hb
  go_wp2_with fail
  go_ret2
  exact ⟨⟨_, rfl, HC.out⟩, HB.out⟩
theorem add_nil (w : World) (u v : Int) : Calls Try.prog 9 #[.pointer none, .agg #[.int .i64 u, .int .u64 v]] w fun e w' => (∃ z, e = .returned z ∧ Chain w' [slotsB] z 1) ∧ Below w.heap.size w w' := by
  have hX := Blk.new w 24 #[.int .i64 u, .int .u64 v]
  have c0 := hX.cell 0
  have c1 := hX.cell 1
  simp only [List.getElem?_toArray, List.getElem?_cons_zero, List.getElem?_cons_succ] at c0 c1
  clear hX
  go_enter Try.func9, Try.ntmps9
  go_wp2_with fail
  refine (with_nil _ _ _ _).mono ?_
  rintro e w1 ⟨⟨z, rfl, hc⟩, hb⟩
  have HC := Lib.hid hc
  have HB := Lib.hid (belowOn ((Below.refl w.heap.size w).alloc (Nat.le_refl _) (.cells #[.int .i64 u, .int .u64 v] 24)) (by simp) hb)
  clear hc hb c0 c1
  go_wp2_with fail
  go_ret
  exact ⟨⟨_, rfl, HC.out⟩, HB.out⟩
theorem drop_nil (w : World) (u v : Int) : Calls Try.prog 6 #[.pointer none, .agg #[.int .i64 u, .int .u64 v]] w fun e w' => (∃ z, e = .returned (.tuple #[.int .i64 0, z]) ∧ Chain w' [slotsB] z 1) ∧ Below w.heap.size w w' := by
  have hX := Blk.new w 24 #[.int .i64 u, .int .u64 v]
  have c0 := hX.cell 0
  have c1 := hX.cell 1
  simp only [List.getElem?_toArray, List.getElem?_cons_zero, List.getElem?_cons_succ] at c0 c1
  clear hX
  go_enter Try.func6, Try.ntmps6
  go_wp2_with fail
  refine (with_nil _ _ _ _).mono ?_
  rintro e w1 ⟨⟨z, rfl, hc⟩, hb⟩
  have HC := Lib.hid hc
  have HB := Lib.hid (belowOn ((Below.refl w.heap.size w).alloc (Nat.le_refl _) (.cells #[.int .i64 u, .int .u64 v] 24)) (by simp) hb)
  clear hc hb c0 c1
  go_wp2_with fail
  go_ret2
  exact ⟨⟨_, rfl, HC.out⟩, HB.out⟩
theorem count_nil (w : World) (u v : Int) : Calls Try.prog 7 #[.pointer none, .agg #[.int .i64 u, .int .u64 v]] w fun e w' => (∃ z, e = .returned (.tuple #[.int .i64 0, z]) ∧ Chain w' [slotsB] z 1) ∧ Below w.heap.size w w' := by
  have hX := Blk.new w 24 #[.int .i64 u, .int .u64 v]
  have c0 := hX.cell 0
  have c1 := hX.cell 1
  simp only [List.getElem?_toArray, List.getElem?_cons_zero, List.getElem?_cons_succ] at c0 c1
  clear hX
  go_enter Try.func7, Try.ntmps7
  go_wp2_with fail
  refine (with_nil _ _ _ _).mono ?_
  rintro e w1 ⟨⟨z, rfl, hc⟩, hb⟩
  have HC := Lib.hid hc
  have HB := Lib.hid (belowOn ((Below.refl w.heap.size w).alloc (Nat.le_refl _) (.cells #[.int .i64 u, .int .u64 v] 24)) (by simp) hb)
  clear hc hb c0 c1
  go_wp2_with fail
  go_ret2
  exact ⟨⟨_, rfl, HC.out⟩, HB.out⟩
theorem live_nil (w : World) : Calls Try.prog 10 #[.pointer none] w fun e w' => e = .returned (.int .i64 0) ∧ w = w' := by
  go_enter Try.func10, Try.ntmps10
  go_wp2
  go_ret
  exact ⟨rfl, rfl⟩
theorem left_nil (w : World) : Calls Try.prog 11 #[.pointer none] w fun e w' => e = .returned (.int .i64 0) ∧ w = w' := by
  go_enter Try.func11, Try.ntmps11
  go_wp2
  go_ret
  exact ⟨rfl, rfl⟩

set_option maxHeartbeats 4000000 in
theorem nobody_calls (w : World) (u v : Int) : Calls Try.prog 3 #[.agg #[.int .i64 u, .int .u64 v]] w fun e w' => e = .returned (.bool true) ∧ Below w.heap.size w w' := by
  go_enter Try.func3, Try.ntmps3
  go_wp2_with fail
  refine (awake_calls _).mono ?_
  rintro e w1 ⟨rfl, hb1⟩
  have hX := (Blk.new w 24 #[.int .i64 u, .int .u64 v]).keep hb1
  have HB1 := Lib.hid (belowOn ((Below.refl w.heap.size w).alloc (Nat.le_refl _) (.cells #[.int .i64 u, .int .u64 v] 24)) (by simp) hb1)
  have HX := Lib.hid hX
  clear hb1 hX
  go_wp2_with fail
  refine (slots_take_nil w1).mono ?_
  rintro e w2 ⟨⟨v2, rfl, hc2⟩, hb2⟩
  have HB2 := Lib.hid ((belowOn HB1.out HB1.out.size hb2).alloc (belowOn HB1.out HB1.out.size hb2).size (.cells #[.int .i64 0, .int .u64 0] 24))
  have HX2 := Lib.hid ((HX.out.keep hb2).alloc (.cells #[.int .i64 0, .int .u64 0] 24))
  have HC2 := Lib.hid (hc2.keep ((Below.refl _ _).alloc (Nat.le_refl _) (.cells #[.int .i64 0, .int .u64 0] 24)))
  have c0 := HX2.out.cell 0
  have c1 := HX2.out.cell 1
  simp only [List.getElem?_toArray, List.getElem?_cons_zero, List.getElem?_cons_succ] at c0 c1
  clear hb2 hc2 HB1 HX
  go_wp2_with fail
  generalize w2.alloc (.cells #[.int .i64 0, .int .u64 0] 24) = wb at HB2 HX2 HC2 c0 c1 ⊢
  refine (drop_nil wb u v).mono ?_
  rintro e w3 ⟨⟨v3, rfl, hc3⟩, hb3⟩
  have HB3 := Lib.hid (belowOn HB2.out HB2.out.size hb3)
  have HX3 := Lib.hid (HX2.out.keep hb3)
  have HC23 := Lib.hid (HC2.out.keep hb3)
  have HC3 := Lib.hid hc3
  clear hb3 hc3 HB2 HX2 HC2 c0 c1
  have c0 := HX3.out.cell 0
  have c1 := HX3.out.cell 1
  simp only [List.getElem?_toArray, List.getElem?_cons_zero, List.getElem?_cons_succ] at c0 c1
  go_wp2_with fail
  refine (count_nil w3 u v).mono ?_
  rintro e w4 ⟨⟨v4, rfl, hc4⟩, hb4⟩
  have HB4 := Lib.hid (belowOn HB3.out HB3.out.size hb4)
  have HX4 := Lib.hid (HX3.out.keep hb4)
  have HC24 := Lib.hid (HC23.out.keep hb4)
  have HC34 := Lib.hid (HC3.out.keep hb4)
  have HC4 := Lib.hid hc4
  clear hb4 hc4 HB3 HX3 HC23 HC3 c0 c1
  have c0 := HX4.out.cell 0
  have c1 := HX4.out.cell 1
  simp only [List.getElem?_toArray, List.getElem?_cons_zero, List.getElem?_cons_succ] at c0 c1
  go_wp2_with (first
    | (go_at_call 8; (with_reducible refine (is_chain _ v2 _ 1 _ HC24.out).mono ?_); rintro e w' ⟨rfl, rfl⟩)
    | (go_at_call 8; (with_reducible refine (is_chain _ v3 _ 1 _ HC34.out).mono ?_); rintro e w' ⟨rfl, rfl⟩)
    | (go_at_call 8; (with_reducible refine (is_chain _ v4 _ 1 _ HC4.out).mono ?_); rintro e w' ⟨rfl, rfl⟩)
    | (go_at_call 9; refine (add_nil w4 u v).mono ?_; rintro e w5 ⟨⟨v5, rfl, hc5⟩, hb5⟩; have HB5 := Lib.hid (belowOn HB4.out HB4.out.size hb5); have HC5 := Lib.hid hc5; clear hb5 hc5)
    | (go_at_call 8; (with_reducible refine (is_chain _ v5 _ 1 _ HC5.out).mono ?_); rintro e w' ⟨rfl, rfl⟩)
    | (go_at_call 10; refine (live_nil _).mono ?_; rintro e w' ⟨rfl, rfl⟩)
    | (go_at_call 11; refine (left_nil _).mono ?_; rintro e w' ⟨rfl, rfl⟩))
  go_ret
  exact ⟨rfl, HB5.out⟩
end Go.Proofs.Ytkmmnmicmjohgaa
