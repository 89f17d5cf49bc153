/- A row of bytes that a conversion lays. -/
import Derived.Test.YtgljkgkmbfhgiaaDoorBase
import Derived.WalkKit
import Derived.KernelRfl
import Derived.Lib.ConvBytes
import Derived.Lib.Hide
import Derived.Laws.BytesArg
import Derived.Laws.BytesString
set_option linter.unusedVariables false
set_option linter.unusedSimpArgs false
namespace Go.Proofs.YtgljkgkmbfhgiaaDoor
open Go.RowKit

theorem bytesWorld_below (w : World) (e : TypeId) (s : ByteArray) : Below w.heap.size w (Lib.bytesWorld w e s) :=
  ⟨rfl, rfl, rfl, by rw [Lib.bytesWorld_size]; omega, fun i hi => Lib.bytesWorld_at_old w e s i hi⟩
/-- Block g holds these bytes first (a conversion's row). -/
def BytesB (w : World) (g : Nat) (l : List UInt8) : Prop := ∃ C : Array Value, w.heap[g]? = some (.cells C 5 (C.size, C.size + 1)) ∧ ∀ (j : Nat) (c : UInt8), l[j]? = some c → C[j]? = some (Value.int .u8 c.toNat)
theorem BytesB.new (w : World) (s : ByteArray) : BytesB (Lib.bytesWorld w 5 s) w.heap.size s.data.toList :=
  ⟨_, Lib.bytesWorld_at_new w _ s, fun j c h => by
    have hj : j < s.data.size := by have := (List.getElem?_eq_some_iff.1 h).1; simpa using this
    have hc : s.data[j]? = some c := by simpa using h
    have hj' : j < s.size := hj
    have hc2 : s.data[j] = c := by rw [Array.getElem?_eq_getElem hj] at hc; exact Option.some.inj hc
    simp [Lib.bytesCells, Array.getElem?_append, hj, hj', hc2]⟩
theorem BytesB.cell {w : World} {g : Nat} {l : List UInt8} (h : BytesB w g l) {j : Nat} {c : UInt8} (hj : l[j]? = some c) : w.cell? ⟨g, j, none⟩ = some (.int .u8 c.toNat) := by
  obtain ⟨C, h1, h2⟩ := h
  simp [World.cell?, h1, h2 j c hj]
theorem BytesB.frozen {w : World} {g : Nat} {l : List UInt8} (h : BytesB w g l) {j : Nat} {c : UInt8} (hj : l[j]? = some c) : w.frozen? ⟨g, j, none⟩ = false := by
  obtain ⟨C, h1, h2⟩ := h
  have hlt : j < C.size := (Array.getElem?_eq_some_iff.1 (h2 j c hj)).1
  simp [World.frozen?, h1]
  omega
theorem BytesB.set_ {w : World} {g : Nat} {l : List UInt8} (h : BytesB w g l) (j : Nat) (c : UInt8) : BytesB (w.setCell ⟨g, j, none⟩ (.int .u8 c.toNat)) g (l.set j c) := by
  obtain ⟨C, h1, h2⟩ := h
  refine ⟨C.setIfInBounds j (.int .u8 c.toNat), ?_, fun i d hi => ?_⟩
  · simp [World.setCell, Array.getElem?_modify, h1]
  · by_cases e : j = i
    · subst e
      have hl : j < l.length := by have := (List.getElem?_eq_some_iff.1 hi).1; simpa using this
      have hd : d = c := by simpa [hl] using hi.symm
      subst hd
      have hC : j < C.size := (Array.getElem?_eq_some_iff.1 (h2 j l[j] (by simp [hl]))).1
      simp [hC]
    · rw [List.getElem?_set_ne e] at hi
      rw [Array.getElem?_setIfInBounds_ne e]
      exact h2 i d hi
theorem BytesB.drewN {w : World} {g : Nat} {l : List UInt8} (h : BytesB w g l) (n : Nat) : BytesB (w.drewN n) g l := h
theorem BytesB.lt {w : World} {g : Nat} {l : List UInt8} (h : BytesB w g l) : g < w.heap.size := by
  obtain ⟨C, h1, _⟩ := h
  exact (Array.getElem?_eq_some_iff.1 h1).1
theorem BytesB.below {w w' : World} {g : Nat} {l : List UInt8} (h : BytesB w g l) (hb : Below w.heap.size w w') : BytesB w' g l := by
  obtain ⟨C, h1, h2⟩ := h
  exact ⟨C, (hb.block g (Array.getElem?_eq_some_iff.1 h1).1).trans h1, h2⟩

end Go.Proofs.YtgljkgkmbfhgiaaDoor
