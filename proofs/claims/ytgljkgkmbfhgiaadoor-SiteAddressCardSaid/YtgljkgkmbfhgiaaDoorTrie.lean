/- Rows of rules and of labels in memory; the longest of some. -/
import Derived.Test.YtgljkgkmbfhgiaaDoorProg
import Derived.Test.YtgljkgkmbfhgiaaDoorBase
import Derived.Test.YtgljkgkmbfhgiaaDoorOpen
import Derived.Test.YtgljkgkmbfhgiaaDoorTriePure
import Derived.Deep.LoopGhost
import Derived.LoopTactic
import Derived.Deep.RegionHeld3
import Derived.BigQuiet
set_option linter.unusedSimpArgs false
set_option linter.unusedVariables false
namespace Go.Proofs.YtgljkgkmbfhgiaaDoor
open Go.RowKit

def strC (s : ByteArray) : List Value := [.string s]
def foundC (x : Int × Int) : List Value := [.int .i64 x.1, .int .i64 x.2]
def mostL : List (Int × Int) → Int × Int → Int × Int
  | [], o => o
  | x :: l, o => mostL l (max o.1 x.1, max o.2 x.2)
theorem found_at {w : World} {A : Option Addr} {l : List (Int × Int)} (h : RowAt foundC 2 w A l) {i : Nat} {a : Int × Int} (hi : l[i]? = some a) :
    ∃ b off, A = some ⟨b, off, none⟩ ∧ w.cell? ⟨b, off + i * 2, none⟩ = some (.int .i64 a.1) ∧ w.cell? ⟨b, off + i * 2 + 1, none⟩ = some (.int .i64 a.2) := by
  obtain ⟨b, off, e, hc⟩ := h i a hi
  exact ⟨b, off, e, hc 0 _ rfl, hc 1 _ rfl⟩
theorem str_at {w : World} {A : Option Addr} {l : List ByteArray} (h : RowAt strC 1 w A l) {i : Nat} {a : ByteArray} (hi : l[i]? = some a) :
    ∃ b off, A = some ⟨b, off, none⟩ ∧ w.cell? ⟨b, off + i, none⟩ = some (.string a) := by
  obtain ⟨b, off, e, hc⟩ := h i a hi
  refine ⟨b, off, e, ?_⟩
  have := hc 0 _ rfl
  simpa using this

theorem max_i64 (ats : Array TypeId) (ty : TypeId) (x y : Int) : Builtin.max_ ats ty #[.int .i64 x, .int .i64 y] = pure (.int .i64 (max x y)) := by
  have e : max x y = if x < y then y else x := by split <;> omega
  simp only [Builtin.max_, List.foldlM_cons, List.foldlM_nil, Builtin.max2, gt_iff_lt, e]
  rfl
theorem min_i64 (ats : Array TypeId) (ty : TypeId) (x y : Int) : Builtin.min_ ats ty #[.int .i64 x, .int .i64 y] = pure (.int .i64 (min x y)) := by
  have e : min x y = if y < x then y else x := by split <;> omega
  simp only [Builtin.min_, List.foldlM_cons, List.foldlM_nil, Builtin.min2, e]
  rfl
attribute [local go_sem] max_i64 min_i64

set_option maxHeartbeats 1000000 in
theorem most_calls (A : Option Addr) (c : Nat) (l : List (Int × Int)) (w : World) (h : RowAt foundC 2 w A l) (hlc : l.length ≤ 4) :
    Calls Tryd.prog 85 #[.slice A l.length c] w fun e w' => e = .returned (.agg #[.int .i64 (mostL l (-1, -1)).1, .int .i64 (mostL l (-1, -1)).2]) ∧ Below w.heap.size w w' := by
  have H := Lib.hid h
  clear h
  go_enter Tryd.func85, Tryd.ntmps85
  go_wp2
  have b0 : Blk ((w.alloc (.cells #[.int .i64 0, .int .i64 0] 102)).alloc (.cells #[.int .i64 (-1), .int .i64 (-1)] 102)) w.heap.size 102 #[.int .i64 0, .int .i64 0] := (Blk.new w _ _).alloc _
  have b1 : Blk ((w.alloc (.cells #[.int .i64 0, .int .i64 0] 102)).alloc (.cells #[.int .i64 (-1), .int .i64 (-1)] 102)) (w.heap.size + 1) 102 #[.int .i64 (-1), .int .i64 (-1)] := by
    have := Blk.new (w.alloc (.cells #[.int .i64 0, .int .i64 0] 102)) 102 #[.int .i64 (-1), .int .i64 (-1)]
    simpa using this
  have hb := ((Below.refl w.heap.size w).alloc (Nat.le_refl _) (.cells #[.int .i64 0, .int .i64 0] 102)).alloc (by simp) (.cells #[.int .i64 (-1), .int .i64 (-1)] 102)
  have B0 := Lib.hid b0
  have B1 := Lib.hid b1
  have HB := Lib.hid hb
  clear b0 b1 hb
  generalize (w.alloc (.cells #[.int .i64 0, .int .i64 0] 102)).alloc (.cells #[.int .i64 (-1), .int .i64 (-1)] 102) = W at B0 B1 HB ⊢
  go_loopg [9, 5] l.length (fun n v9 v5 w' => Hid (∃ (i : Nat) (o : Int × Int), v9 = .int .i64 i ∧ i ≤ l.length ∧ n = l.length - i ∧ Blk w' w.heap.size 102 #[.int .i64 0, .int .i64 0] ∧ Blk w' (w.heap.size + 1) 102 #[.int .i64 o.1, .int .i64 o.2] ∧ mostL (l.drop i) o = mostL l (-1, -1) ∧ Below w.heap.size w w'))
  case atStart => exact ⟨0, (-1, -1), rfl, Nat.zero_le _, rfl, B0.out, B1.out, rfl, HB.out⟩
  case round =>
    obtain ⟨i, o, rfl, hi, hn, b0, b1, hm, hb⟩ := hrel.out
    clear hrel B0 B1 HB
    have HN := Lib.hid hn
    have HM := Lib.hid hm
    have HB := Lib.hid hb
    have B0 := Lib.hid b0
    have B1 := Lib.hid b1
    have x0 := b1.cell 0
    have x1 := b1.cell 1
    have f0 := b1.frozen 0
    have f1 := b1.frozen 1
    have r0 := b0.cell 0
    have r1 := b0.cell 1
    have g0 := b0.frozen 0
    have g1 := b0.frozen 1
    have hl0 := b0.lt
    have hl1 := b1.lt
    simp only [List.getElem?_toArray, List.getElem?_cons_zero, List.getElem?_cons_succ] at x0 x1 r0 r1
    clear hn hm hb b0 b1
    by_cases hlt : i < l.length
    · obtain ⟨a, ha⟩ : ∃ a, l[i]? = some a := ⟨l[i]'hlt, List.getElem?_eq_getElem hlt⟩
      obtain ⟨b, off, rfl, c0, c1⟩ := found_at (H.out.keep HB.out) ha
      have HA := Lib.hid ha
      clear ha
      go_wp2
      go_roundg (l.length - (i + 1))
      case measure => have := HN.out; omega
      case rel =>
        have hd : l.drop i = a :: l.drop (i + 1) := by
          rw [List.drop_eq_getElem_cons hlt]
          have := HA.out
          rw [List.getElem?_eq_getElem hlt] at this
          rw [Option.some.inj this]
        have hb1 := (B1.out.set_ 0 (.int .i64 (max o.1 a.1))).set_ 1 (.int .i64 (max o.2 a.2))
        simp only [List.setIfInBounds_toArray, List.set_cons_zero, List.set_cons_succ] at hb1
        refine ⟨i + 1, (max o.1 a.1, max o.2 a.2), by simp, by omega, rfl, ((B0.out.far (p := ⟨w.heap.size + 1, 0, none⟩) (by simp) _).far (p := ⟨w.heap.size + 1, 1, none⟩) (by simp) _).alloc _, hb1.alloc _, ?_, ((HB.out.setCell (p := ⟨w.heap.size + 1, 0, none⟩) (by simp) _).setCell (p := ⟨w.heap.size + 1, 1, none⟩) (by simp) _).alloc (by simp; omega) _⟩
        have := HM.out
        rw [hd] at this
        exact this
    · have hd : l.drop i = [] := List.drop_eq_nil_of_le (by omega)
      have ho : o = mostL l (-1, -1) := by have := HM.out; rw [hd] at this; exact this
      have HO := Lib.hid ho
      clear hd ho
      go_wp2
      have hb0 := (B0.out.set_ 0 (.int .i64 o.1)).set_ 1 (.int .i64 o.2)
      simp only [List.setIfInBounds_toArray, List.set_cons_zero, List.set_cons_succ] at hb0
      refine bodyPost_ret (results_cell_row rfl _ _ w.heap.size 102 _ (0, 0) _ rfl hb0 Tryd.underlying102 rfl (by kernel_rfl)) rfl ?_
      exact ⟨by rw [← HO.out], (HB.out.setCell (p := ⟨w.heap.size, 0, none⟩) (by simp) _).setCell (p := ⟨w.heap.size, 1, none⟩) (by simp) _⟩
end Go.Proofs.YtgljkgkmbfhgiaaDoor
