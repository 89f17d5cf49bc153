/- The program's slots in memory, and what each call tells and leaves. -/
import Derived.Test.YtlpjjbkpoaohnaaDoorProg
import Derived.Test.YtlpjjbkpoaohnaaDoorSlotsPure
import Derived.Test.YtlpjjbkpoaohnaaDoorErr
import Derived.Test.YtlpjjbkpoaohnaaDoorResults
import Derived.WalkKit
import Derived.Deep.QuietTactic
import Derived.BigQuiet
import Derived.Deep.LoopGhost
import Derived.Lib.Hide
set_option linter.unusedVariables false
set_option linter.unusedSimpArgs false
namespace Go.Proofs.YtlpjjbkpoaohnaaDoor
open Go.RowKit

namespace Slots
def Cell.cells (c : Cell) : List Value := [.int .u64 c.gen, .int .i64 c.count, .int .i64 c.next]
theorem cell_len (c : Cell) : c.cells.length = 3 := rfl
/-- Slots behind a pointer to block b, their row in block g. -/
structure At (w : World) (b g : Nat) (s : St) : Prop where
  ne : b ≠ g
  blk : Blk w b 118 #[.slice (some ⟨g, 0, none⟩) s.sl.length s.sl.length, .int .u64 s.last, .int .i64 s.head, .int .i64 s.left, .int .i64 s.live]
  row : Blk w g 120 (s.sl.flatMap Cell.cells).toArray
variable {w w' : World} {b g : Nat} {s : St}
theorem At.keep (h : At w b g s) (hb : Below w.heap.size w w') : At w' b g s := ⟨h.ne, h.blk.keep hb, h.row.keep hb⟩
theorem At.cell (h : At w b g s) {i : Nat} {c : Cell} (hc : s.sl[i]? = some c) (j : Nat) (hj : j < 3) : w.cell? ⟨g, i * 3 + j, none⟩ = c.cells[j]? := by
  rw [h.row.cell, List.getElem?_toArray, flat_get cell_len s.sl i j c hc hj]
end Slots
open Slots

/-- fail.Wrap of a number. -/
theorem wrap_num (s : ByteArray) (c : Int) (w : World) :
    Calls Tryd.prog 25 #[.string s, .iface 38 (.int .i64 c)] w fun e w' => ∃ N, e = .returned (.iface 121 (.pointer (some ⟨N, 0, none⟩))) ∧ Chain w' [s] (.iface 121 (.pointer (some ⟨N, 0, none⟩))) c ∧ Below w.heap.size w w' := by
  refine (wrap_some s _ _ w).mono ?_
  rintro e w' ⟨rfl, rfl⟩
  exact ⟨_, rfl, .fail _ s [] _ c (Blk.new w _ _) (.num c), (Below.refl _ _).alloc (Nat.le_refl _) _⟩

/-- A result that is a struct of two, written. -/
theorem res_set {w w1 : World} {g B : Nat} {T : TypeId} {x y : Value} (h : Blk w1 g T #[x, y]) (hb : Below B w w1) (hg : B ≤ g) (u v : Value) :
    Blk ((w1.setCell ⟨g, 0, none⟩ u).setCell ⟨g, 1, none⟩ v) g T #[u, v] ∧ Below B w ((w1.setCell ⟨g, 0, none⟩ u).setCell ⟨g, 1, none⟩ v) :=
  ⟨(h.set_ 0 u).set_ 1 v, (hb.setCell hg u).setCell hg v⟩
theorem res_chain {w1 : World} {g : Nat} {x y : Value} {l : List ByteArray} {z : Value} {c : Int} (h : Blk w1 g 50 #[x, y]) (hc : Chain w1 l z c) (u v : Value) :
    Chain ((w1.setCell ⟨g, 0, none⟩ u).setCell ⟨g, 1, none⟩ v) l z c :=
  hc.mono fun k s v' hk => by
    have hne : k ≠ g := fun e => by subst e; exact absurd (Blk.ne_ (show Blk w1 k 123 #[.string s, v'] from hk) h (by decide)) (fun i => i rfl)
    exact ((show Blk w1 k 123 #[.string s, v'] from hk).far (p := ⟨g, 0, none⟩) hne u).far (p := ⟨g, 1, none⟩) hne v
def slotsB : ByteArray := ⟨#[115, 108, 111, 116, 115]⟩
theorem slots_take_nil (w : World) : Calls Tryd.prog 37 #[.pointer none] w fun e w' => (∃ v, e = .returned (.tuple #[.agg #[.int .i64 0, .int .u64 0], v]) ∧ Chain w' [slotsB] v 1) ∧ Below w.heap.size w w' := by
  have hb0 := Blk.new w 50 #[.int .i64 0, .int .u64 0]
  have HB0 := Lib.hid hb0
  have H0 := Lib.hid ((Below.refl w.heap.size w).alloc (Nat.le_refl _) (.cells #[.int .i64 0, .int .u64 0] 50))
  clear hb0
  go_enter Tryd.func37, Tryd.ntmps37
  go_wp2_with fail
  generalize w.alloc (.cells #[.int .i64 0, .int .u64 0] 50) = w0 at HB0 H0 ⊢
  refine (wrap_num _ 1 w0).mono ?_
  rintro e w1 ⟨N, rfl, hc, hb⟩
  have HB1 := Lib.hid (HB0.out.keep hb)
  have HC := Lib.hid hc
  have H1 := Lib.hid (belowOn H0.out H0.out.size hb)
  have c0 := HB1.out.cell 0
  have c1 := HB1.out.cell 1
  have f0 := HB1.out.frozen 0
  have f1 := HB1.out.frozen 1
  simp only [List.getElem?_toArray, List.getElem?_cons_zero, List.getElem?_cons_succ] at c0 c1
  clear hc hb HB0 H0
  go_wp2_with fail
  have HW := Lib.hid (res_set HB1.out H1.out (Nat.le_refl _) (.int .i64 0) (.int .u64 0))
  have HC2 := Lib.hid (res_chain HB1.out HC.out (.int .i64 0) (.int .u64 0))
  generalize ((w1.setCell ⟨w.heap.size, 0, none⟩ (.int .i64 0)).setCell ⟨w.heap.size, 1, none⟩ (.int .u64 0)) = W at HW HC2 ⊢
  refine bodyPost_ret (results_cell_row2 rfl _ _ w.heap.size 50 _ (0, 0) _ rfl HW.out.1 Tryd.underlying50 rfl (by kernel_rfl)) rfl ?_
  exact ⟨⟨_, rfl, HC2.out⟩, HW.out.2⟩

theorem slots_take_full {w : World} {b g : Nat} {s : St} (h : At w b g s) (h0 : s.left = 0) : Calls Tryd.prog 37 #[.pointer (some ⟨b, 0, none⟩)] w fun e w' => (∃ v, e = .returned (.tuple #[.agg #[.int .i64 0, .int .u64 0], v]) ∧ Chain w' [slotsB] v 8) ∧ Below w.heap.size w w' := by
  have hb0 := Blk.new w 50 #[.int .i64 0, .int .u64 0]
  have HB0 := Lib.hid hb0
  have H0 := Lib.hid ((Below.refl w.heap.size w).alloc (Nat.le_refl _) (.cells #[.int .i64 0, .int .u64 0] 50))
  have b3 := (h.blk.alloc (.cells #[.int .i64 0, .int .u64 0] 50)).cell 3
  simp only [List.getElem?_toArray, List.getElem?_cons_zero, List.getElem?_cons_succ, h0] at b3
  clear hb0 h h0
  go_enter Tryd.func37, Tryd.ntmps37
  go_wp2_with fail
  generalize w.alloc (.cells #[.int .i64 0, .int .u64 0] 50) = w0 at HB0 H0 b3 ⊢
  refine (wrap_num _ 8 w0).mono ?_
  rintro e w1 ⟨N, rfl, hc, hb⟩
  have HB1 := Lib.hid (HB0.out.keep hb)
  have HC := Lib.hid hc
  have H1 := Lib.hid (belowOn H0.out H0.out.size hb)
  have c0 := HB1.out.cell 0
  have c1 := HB1.out.cell 1
  have f0 := HB1.out.frozen 0
  have f1 := HB1.out.frozen 1
  simp only [List.getElem?_toArray, List.getElem?_cons_zero, List.getElem?_cons_succ] at c0 c1
  clear hc hb HB0 H0
  go_wp2_with fail
  have HW := Lib.hid (res_set HB1.out H1.out (Nat.le_refl _) (.int .i64 0) (.int .u64 0))
  have HC2 := Lib.hid (res_chain HB1.out HC.out (.int .i64 0) (.int .u64 0))
  generalize ((w1.setCell ⟨w.heap.size, 0, none⟩ (.int .i64 0)).setCell ⟨w.heap.size, 1, none⟩ (.int .u64 0)) = W at HW HC2 ⊢
  refine bodyPost_ret (results_cell_row2 rfl _ _ w.heap.size 50 _ (0, 0) _ rfl HW.out.1 Tryd.underlying50 rfl (by kernel_rfl)) rfl ?_
  exact ⟨⟨_, rfl, HC2.out⟩, HW.out.2⟩

set_option maxHeartbeats 2000000 in
theorem slots_take_calls {w : World} {b g : Nat} {s : St} (h : At w b g s) {n : Nat} {c : Cell} (hn : s.head = n) (hc : s.sl[n]? = some c) (h0 : s.left ≠ 0) (hl : 0 ≤ s.left ∧ s.left ≤ 1000000) (hv : 0 ≤ s.live ∧ s.live ≤ 1000000) :
    Calls Tryd.prog 37 #[.pointer (some ⟨b, 0, none⟩)] w fun e w' => e = .returned (.tuple #[.agg #[.int .i64 s.head, .int .u64 c.gen], .nilIface]) ∧ At w' b g s.take.1 ∧ Fr w w' (fun i => i = b ∨ i = g) := by
  have hb0 := Blk.new w 50 #[.int .i64 0, .int .u64 0]
  have hA : At (w.alloc (.cells #[.int .i64 0, .int .u64 0] 50)) b g s := ⟨h.ne, h.blk.alloc _, h.row.alloc _⟩
  have hbs := h.blk.lt
  have hgs := h.row.lt
  have HB0 := Lib.hid hb0
  have HA := Lib.hid hA
  have H0 := Lib.hid ((Fr.refl w (fun i => i = b ∨ i = g)).alloc (.cells #[.int .i64 0, .int .u64 0] 50))
  have b0 := h.blk.cell 0
  have b2 := h.blk.cell 2
  have b3 := h.blk.cell 3
  have b4 := h.blk.cell 4
  have r0 := h.cell hc 0 (by omega)
  have r1 := h.cell hc 1 (by omega)
  have r2 := h.cell hc 2 (by omega)
  have fb : ∀ i, (w.alloc (.cells #[.int .i64 0, .int .u64 0] 50)).frozen? ⟨b, i, none⟩ = false := hA.blk.frozen
  have fg : ∀ i, (w.alloc (.cells #[.int .i64 0, .int .u64 0] 50)).frozen? ⟨g, i, none⟩ = false := hA.row.frozen
  have fb' : ∀ i, w.frozen? ⟨b, i, none⟩ = false := h.blk.frozen
  have fg' : ∀ i, w.frozen? ⟨g, i, none⟩ = false := h.row.frozen
  have e0 := hb0.cell 0
  have e1 := hb0.cell 1
  have fe := hb0.frozen
  have hne := h.ne
  simp only [List.getElem?_toArray, List.getElem?_cons_zero, List.getElem?_cons_succ, Cell.cells, hn, Nat.add_zero] at b0 b2 b3 b4 r0 r1 r2 e0 e1
  have hlen : n < s.sl.length := (List.getElem?_eq_some_iff.1 hc).1
  have hle : (n : Int) < (s.sl.length : Int) := by omega
  have hne' : ¬ g = b := fun e => hne e.symm
  have hb9 : ¬ b = w.heap.size := by omega
  have hg9 : ¬ g = w.heap.size := by omega
  have hb8 : ¬ w.heap.size = b := by omega
  have hg8 : ¬ w.heap.size = g := by omega
  have HH := Lib.hid h
  clear hb0 hA h
  go_enter Tryd.func37, Tryd.ntmps37
  go_wp2_with fail
  have hget : s.get s.head = c := by unfold St.get; rw [hn, Int.toNat_natCast, hc]; rfl
  have htake : s.take.1 = { s with sl := s.sl.set n ⟨c.gen, 1, c.next⟩, head := c.next, left := s.left - 1, live := s.live + 1 } := by
    unfold St.take
    rw [if_neg h0]
    rw [hn] at hget
    simp only [hn, hget, Int.toNat_natCast]
  have A1 : At ((((w.setCell ⟨b, 2, none⟩ (.int .i64 c.next)).setCell ⟨g, n * 3 + 1, none⟩ (.int .i64 1)).setCell ⟨b, 3, none⟩ (.int .i64 (s.left - 1))).setCell ⟨b, 4, none⟩ (.int .i64 (s.live + 1))) b g s.take.1 := by
    rw [htake]
    refine ⟨hne, ?_, ?_⟩
    · have := ((((HH.out.blk.set_ 2 (.int .i64 c.next)).far (p := ⟨g, n * 3 + 1, none⟩) hne (.int .i64 1)).set_ 3 (.int .i64 (s.left - 1))).set_ 4 (.int .i64 (s.live + 1)))
      simpa using this
    · have := ((((HH.out.row.far (p := ⟨b, 2, none⟩) hne' (.int .i64 c.next)).set_ (n * 3 + 1) (.int .i64 1)).far (p := ⟨b, 3, none⟩) hne' (.int .i64 (s.left - 1))).far (p := ⟨b, 4, none⟩) hne' (.int .i64 (s.live + 1)))
      rw [show (s.sl.flatMap Cell.cells).toArray.setIfInBounds (n * 3 + 1) (.int .i64 1) = ((s.sl.set n ⟨c.gen, 1, c.next⟩).flatMap Cell.cells).toArray by
        rw [List.setIfInBounds_toArray, flat_set cell_len s.sl n 1 c ⟨c.gen, 1, c.next⟩ (.int .i64 1) hc (by omega) rfl]] at this
      exact this
  have F1 : Fr w ((((w.setCell ⟨b, 2, none⟩ (.int .i64 c.next)).setCell ⟨g, n * 3 + 1, none⟩ (.int .i64 1)).setCell ⟨b, 3, none⟩ (.int .i64 (s.left - 1))).setCell ⟨b, 4, none⟩ (.int .i64 (s.live + 1))) (fun i => i = b ∨ i = g) :=
    ((((Fr.refl w _).setCell (p := ⟨b, 2, none⟩) (.inl (.inl rfl)) _).setCell (p := ⟨g, n * 3 + 1, none⟩) (.inl (.inr rfl)) _).setCell (p := ⟨b, 3, none⟩) (.inl (.inl rfl)) _).setCell (p := ⟨b, 4, none⟩) (.inl (.inl rfl)) _
  have hsz : ((((w.setCell ⟨b, 2, none⟩ (.int .i64 c.next)).setCell ⟨g, n * 3 + 1, none⟩ (.int .i64 1)).setCell ⟨b, 3, none⟩ (.int .i64 (s.left - 1))).setCell ⟨b, 4, none⟩ (.int .i64 (s.live + 1))).heap.size = w.heap.size := by simp [World.setCell]
  generalize ((((w.setCell ⟨b, 2, none⟩ (.int .i64 c.next)).setCell ⟨g, n * 3 + 1, none⟩ (.int .i64 1)).setCell ⟨b, 3, none⟩ (.int .i64 (s.left - 1))).setCell ⟨b, 4, none⟩ (.int .i64 (s.live + 1))) = W at A1 F1 hsz ⊢
  refine bodyPost_ret (results_cell_row2 rfl _ _ w.heap.size 50 #[.int .i64 n, .int .u64 c.gen] (0, 0) _ rfl (by rw [← hsz]; exact heap_alloc_new W _) Tryd.underlying50 rfl (by kernel_rfl)) rfl ?_
  refine ⟨by rw [hn]; rfl, ⟨A1.ne, A1.blk.alloc _, A1.row.alloc _⟩, F1.alloc _⟩
end Go.Proofs.YtlpjjbkpoaohnaaDoor
