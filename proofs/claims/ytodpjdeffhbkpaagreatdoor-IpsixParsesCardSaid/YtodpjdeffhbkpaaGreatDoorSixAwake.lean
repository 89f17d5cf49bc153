/- The law's awake: an address, and what is none. -/
import Derived.Test.YtodpjdeffhbkpaaGreatDoorSixParse
import Derived.Test.YtodpjdeffhbkpaaGreatDoorSixText
import Derived.Test.YtodpjdeffhbkpaaGreatDoorSixQuads
set_option linter.unusedVariables false
set_option linter.unusedSimpArgs false
set_option maxRecDepth 100000
namespace Go.Proofs.YtodpjdeffhbkpaaGreatDoor
open Go.RowKit Four Six

theorem all_range_nat : ∀ (xs ys : List Nat), xs.length = ys.length → ((List.range xs.length).all fun i => xs.getD i 0 == ys.getD i 0) = (xs == ys)
  | [], [], _ => rfl
  | x :: xs, y :: ys, h => by
    have ih := all_range_nat xs ys (by simpa using h)
    rw [List.length_cons, List.range_succ_eq_map, List.all_cons, List.all_map]
    have e : ((fun i => (x :: xs).getD i 0 == (y :: ys).getD i 0) ∘ Nat.succ) = fun i => xs.getD i 0 == ys.getD i 0 := by
      funext i
      simp
    rw [e, ih]
    simp [List.cons_beq_cons]
  | [], _ :: _, h => by simp at h
  | _ :: _, [], h => by simp at h
def cell16 (n : Nat) : Value := .int .u16 n
theorem run_eq16 (d : Nat) (xs ys : List Nat) (hx : xs.length = 8) (hy : ys.length = 8) (w : World) :
    (Op.equalIn (d + 2) 23 (.agg (xs.map cell16).toArray) (.agg (ys.map cell16).toArray)).run Tryz.prog w = .ok (xs == ys) w := by
  have he : Tryz.prog.underlying 22 = some (.int .u16) := Tryz.underlying22
  rw [← all_range_nat xs ys (hx.trans hy.symm), hx, List.range_eq_range', Op.equalIn]
  simp only [Sem.run_bind, run_underlying Tryz.underlying23, Result.andThen_ok, size_u16, Std.Legacy.Range.forIn_eq_forIn_range', Std.Legacy.Range.size, Nat.sub_zero, Nat.add_sub_cancel, Nat.div_one]
  have hl : ∀ i ∈ List.range' 0 8 1, i < 8 := fun i hi => by simpa using (List.mem_range'_1.1 hi).2
  generalize List.range' 0 8 1 = l at hl ⊢
  induction l with
  | nil => simp
  | cons i l ih =>
    have hi : i < 8 := hl i (by simp)
    have px : (part 22 (xs.map cell16).toArray (i * 1)).run Tryz.prog w = .ok (cell16 (xs.getD i 0)) w := by
      simp [part, isAgg, run_underlying he, List.getD, List.getElem?_eq_getElem (show i < xs.length by omega)]
    have py : (part 22 (ys.map cell16).toArray (i * 1)).run Tryz.prog w = .ok (cell16 (ys.getD i 0)) w := by
      simp [part, isAgg, run_underlying he, List.getD, List.getElem?_eq_getElem (show i < ys.length by omega)]
    have pe : (Op.equalIn (d + 1) 22 (cell16 (xs.getD i 0)) (cell16 (ys.getD i 0))).run Tryz.prog w = .ok (xs.getD i 0 == ys.getD i 0) w := by
      rw [cell16, cell16, run_equalIn_int w d 22 .u16 .u16 _ _ he]
      congr 1
      rw [Bool.eq_iff_iff]
      simp
      omega
    simp only [List.forIn_cons, Sem.run_bind, px, py, pe, Result.andThen_ok, List.all_cons]
    cases hb : (xs.getD i 0 == ys.getD i 0)
    · simp
    · simp only [Bool.not_true, Bool.false_eq_true, if_false, Sem.run_pure, Result.andThen_ok, Bool.true_and]
      exact ih fun j hj => hl j (by simp [hj])
theorem eq16 {a b : List Nat} (ha : a.length = 8) (hb : b.length = 8) {x y : Value} (hx : x = .agg (cellsA a).toArray) (hy : y = .agg (cellsA b).toArray) (w : World) : (Op.equalIn 10000 23 x y).run Tryz.prog w = .ok (a == b) w := by
  subst hx
  subst hy
  exact run_eq16 9998 a b ha hb w
theorem parse_ok (s : ByteArray) (a : List Nat) (h : parse6 s.data.toList = some a) {w : World} (hF : FW w) (hs : s.size ≤ 1000) : Calls Tryz.prog 11 #[.string s] w fun e w' => e = .returned (.tuple #[.agg (cellsA a).toArray, .nilIface]) ∧ Below w.heap.size w w' := by
  refine (parse_calls s hF hs).mono ?_
  rintro e w' ⟨h1, h2⟩
  rw [h] at h1
  exact ⟨h1, h2⟩
theorem parse_none (s : ByteArray) (h : parse6 s.data.toList = none) {w : World} (hF : FW w) (hs : s.size ≤ 1000) : Calls Tryz.prog 11 #[.string s] w fun e w' => (∃ t x, e = .returned (.tuple #[.agg #[.int .u16 0, .int .u16 0, .int .u16 0, .int .u16 0, .int .u16 0, .int .u16 0, .int .u16 0, .int .u16 0], .iface t x]) ∧ ∃ l, Chain w' l (.iface t x) 2) ∧ Below w.heap.size w w' := by
  refine (parse_calls s hF hs).mono ?_
  rintro e w' ⟨h1, h2⟩
  rw [h] at h1
  obtain ⟨v, l, rfl, hc⟩ := h1
  obtain ⟨t, x, rfl⟩ := hc.iface
  exact ⟨⟨t, x, rfl, l, hc⟩, h2⟩
theorem is6_calls {l : List ByteArray} {v : Value} {w : World} (h : Chain w l v 2) : Calls Tryz.prog 16 #[v, .iface 35 (.int .i64 2)] w fun e w' => e = .returned (.bool true) ∧ w = w' := is_chain l v 2 2 w h
theorem parse_aw1 : parse6 (ByteArray.mk #[49, 58, 58, 50, 46, 51, 46, 52, 46, 53]).data.toList = some [1, 0, 0, 0, 0, 0, 515, 1029] := by decide +kernel
theorem parse_aw2 : parse6 (ByteArray.mk #[49, 58, 48, 58, 48, 58, 50, 58, 58, 58]).data.toList = none := by decide +kernel
theorem text_aw1 : text6 [1, 0, 0, 0, 0, 0, 515, 1029] = [49, 58, 58, 50, 48, 51, 58, 52, 48, 53] := by
  have h : longest [1, 0, 0, 0, 0, 0, 515, 1029] = (1, 5) := by decide +kernel
  have e1 : hexL 1 = [49] := hexL_lt (by decide)
  have e2 : hexL 515 = [50, 48, 51] := by rw [hexL_ge (by decide), show 515 / 16 = 32 from rfl, hexL_ge (by decide), show 32 / 16 = 2 from rfl, hexL_lt (by decide)]; rfl
  have e3 : hexL 1029 = [52, 48, 53] := by rw [hexL_ge (by decide), show 1029 / 16 = 64 from rfl, hexL_ge (by decide), show 64 / 16 = 4 from rfl, hexL_lt (by decide)]; rfl
  unfold text6
  rw [h, if_neg (by decide)]
  simp only [joined, List.take_succ_cons, List.take_zero, List.drop_succ_cons, List.drop_zero, List.map_cons, List.map_nil, e1, e2, e3]
  rfl
theorem text_aw2 : text6 [0, 0, 0, 0, 0, 0, 0, 0] = [58, 58] := by
  have h : longest [0, 0, 0, 0, 0, 0, 0, 0] = (0, 8) := by decide +kernel
  unfold text6
  rw [h, if_neg (by decide)]
  rfl
theorem text_ok1 {w : World} (hF : FW w) : Calls Tryz.prog 14 #[.agg #[.int .u16 1, .int .u16 0, .int .u16 0, .int .u16 0, .int .u16 0, .int .u16 0, .int .u16 515, .int .u16 1029]] w fun e w' => e = .returned (.string ⟨#[49, 58, 58, 50, 48, 51, 58, 52, 48, 53]⟩) ∧ Below w.heap.size w w' := by
  have h := text_calls [1, 0, 0, 0, 0, 0, 515, 1029] rfl (by decide) hF
  rw [text_aw1] at h
  exact h
theorem text_ok2 {w : World} (hF : FW w) : Calls Tryz.prog 14 #[.agg #[.int .u16 0, .int .u16 0, .int .u16 0, .int .u16 0, .int .u16 0, .int .u16 0, .int .u16 0, .int .u16 0]] w fun e w' => e = .returned (.string ⟨#[58, 58]⟩) ∧ Below w.heap.size w w' := by
  have h := text_calls [0, 0, 0, 0, 0, 0, 0, 0] rfl (by decide) hF
  rw [text_aw2] at h
  exact h
theorem parse_ok1 {w : World} (hF : FW w) : Calls Tryz.prog 11 #[.string ⟨#[49, 58, 58, 50, 46, 51, 46, 52, 46, 53]⟩] w fun e w' => e = .returned (.tuple #[.agg #[.int .u16 1, .int .u16 0, .int .u16 0, .int .u16 0, .int .u16 0, .int .u16 0, .int .u16 515, .int .u16 1029], .nilIface]) ∧ Below w.heap.size w w' := parse_ok _ _ parse_aw1 hF (by decide)
set_option maxHeartbeats 4000000 in
theorem awake_calls {w : World} (hF : FW w) : Calls Tryz.prog 8 #[] w fun e w' => e = .returned (.bool true) ∧ Below w.heap.size w w' := by
  have HF := Lib.hid hF
  clear hF
  have heq : ∀ w, (Op.equalIn 10000 23 (.agg #[.int .u16 1, .int .u16 0, .int .u16 0, .int .u16 0, .int .u16 0, .int .u16 0, .int .u16 515, .int .u16 1029]) (.agg #[.int .u16 1, .int .u16 0, .int .u16 0, .int .u16 0, .int .u16 0, .int .u16 0, .int .u16 515, .int .u16 1029])).run Tryz.prog w = .ok true w := fun w => eq16 (a := [1, 0, 0, 0, 0, 0, 515, 1029]) (b := [1, 0, 0, 0, 0, 0, 515, 1029]) rfl rfl rfl rfl w
  go_enter Tryz.func8, Tryz.ntmps8
  go_wp2_with fail
  refine (parse_ok1 HF.out).mono ?_
  rintro e w1 ⟨rfl, hb⟩
  have H1 := Lib.hid (hb.alloc hb.size (.cells #[.int .u16 1, .int .u16 0, .int .u16 0, .int .u16 0, .int .u16 0, .int .u16 0, .int .u16 515, .int .u16 1029] 23))
  have K1 := Lib.hid (Blk.new w1 23 #[.int .u16 1, .int .u16 0, .int .u16 0, .int .u16 0, .int .u16 0, .int .u16 0, .int .u16 515, .int .u16 1029])
  clear hb
  go_wp2_with fail
  refine (parse_none ⟨#[49, 58, 48, 58, 48, 58, 50, 58, 58, 58]⟩ parse_aw2 (HF.out.keep H1.out) (by decide)).mono ?_
  rintro e w2 ⟨⟨t, x, rfl, hch⟩, hb⟩
  have H2 := Lib.hid (belowOn H1.out H1.out.size hb)
  have HK := Lib.hid (K1.out.keep hb)
  have HC := Lib.hid hch
  clear hb hch K1
  have hc0 : ∀ o, (w2.alloc o).cell? ⟨w1.heap.size, 0, none⟩ = some (.int .u16 1) := fun o => (HK.out.alloc o).cell 0
  have hc1 : ∀ o, (w2.alloc o).cell? ⟨w1.heap.size, 1, none⟩ = some (.int .u16 0) := fun o => (HK.out.alloc o).cell 1
  have hc2 : ∀ o, (w2.alloc o).cell? ⟨w1.heap.size, 2, none⟩ = some (.int .u16 0) := fun o => (HK.out.alloc o).cell 2
  have hc3 : ∀ o, (w2.alloc o).cell? ⟨w1.heap.size, 3, none⟩ = some (.int .u16 0) := fun o => (HK.out.alloc o).cell 3
  have hc4 : ∀ o, (w2.alloc o).cell? ⟨w1.heap.size, 4, none⟩ = some (.int .u16 0) := fun o => (HK.out.alloc o).cell 4
  have hc5 : ∀ o, (w2.alloc o).cell? ⟨w1.heap.size, 5, none⟩ = some (.int .u16 0) := fun o => (HK.out.alloc o).cell 5
  have hc6 : ∀ o, (w2.alloc o).cell? ⟨w1.heap.size, 6, none⟩ = some (.int .u16 515) := fun o => (HK.out.alloc o).cell 6
  have hc7 : ∀ o, (w2.alloc o).cell? ⟨w1.heap.size, 7, none⟩ = some (.int .u16 1029) := fun o => (HK.out.alloc o).cell 7
  go_wp2_with fail
  refine (text_ok1 (HF.out.keep (H2.out.alloc H2.out.size _))).mono ?_
  rintro e w3 ⟨rfl, hb⟩
  have H3 := Lib.hid (belowOn (H2.out.alloc H2.out.size _) (by have := H2.out.size; simp; omega) hb)
  have HC3 := Lib.hid (show ∃ l, Chain w3 l (.iface t x) 2 from HC.out.imp fun l h => (h.keep ((Below.refl _ _).alloc (Nat.le_refl _) _)).keep hb)
  clear hb hc0 hc1 hc2 hc3 hc4 hc5 hc6 hc7 HC HK
  go_wp2_with fail
  obtain ⟨l, hl⟩ := HC3.out
  refine (is6_calls hl).mono ?_
  rintro e w' ⟨rfl, rfl⟩
  clear hl
  go_wp2_with fail
  refine (text_ok2 (HF.out.keep H3.out)).mono ?_
  rintro e w4 ⟨rfl, hb⟩
  have H4 := Lib.hid (belowOn H3.out H3.out.size hb)
  clear hb
  go_wp2_with fail
  go_ret
  exact ⟨rfl, H4.out⟩
end Go.Proofs.YtodpjdeffhbkpaaGreatDoor
