/- Contracts of functions below scheme, in the print's form: strings.IndexByte, stringslite.Index at one byte, small. -/
import Derived.Test.YtakbjmmelfcjeaaDoorShelf
import Derived.Test.YtakbjmmelfcjeaaDoorWMore
import Derived.WalkKit
import Derived.KernelRfl
import Derived.Lib.ConvBytes
import Derived.Lib.Hide
import Derived.Laws.BytesArg
import Derived.Laws.BytesString
import Derived.Deep.LoopGhost
import Derived.Deep.QuietTactic
import Derived.BigQuiet
set_option linter.unusedVariables false
set_option linter.unusedSimpArgs false
namespace Go.Proofs.YtakbjmmelfcjeaaDoor
open Go.RowKit Go.Proofs.YtakbjmmelfcjeaaDoorW.PrintWords

theorem bytesWorld_below (w : World) (e : TypeId) (s : ByteArray) : Below w.heap.size w (Lib.bytesWorld w e s) :=
  ⟨rfl, rfl, rfl, by rw [Lib.bytesWorld_size]; omega, fun i hi => Lib.bytesWorld_at_old w e s i hi⟩
theorem drawn_of_eq {w w' : World} (h : w' = w) : Drawn0 w w' := ⟨⟨0, by rw [h]; rfl⟩⟩

def strings_IndexByte.f (s : ByteArray) (c : Int) : Option Int := some (Lib.indexByte s.data.toList c.toNat.toUInt8)
theorem strings_IndexByte.calls (a0 : ByteArray) (a1 : Int) (r : Int) (w : World) (h : strings_IndexByte.f a0 a1 = some r) :
    Calls Tryd.prog 22 #[.string a0, .int .u8 a1] w fun e w' => e = .returned (.int .i64 r) ∧ Drawn0 w w' := by
  obtain rfl := Option.some.inj h
  refine (Tryd.strings_IndexByte a0 a1 w).mono ?_
  rintro e w' ⟨rfl, h⟩
  exact ⟨rfl, drawn_of_eq h⟩

def stringslite_Index.f (s sep : ByteArray) : Option Int :=
  if sep.size = 1 then some (Lib.indexByte s.data.toList (sep.data.toList.getD 0 0)) else none
theorem one_byte {s : ByteArray} (h : s.size = 1) : s = ⟨#[s.data.toList.getD 0 0]⟩ := by
  cases s with | mk a =>
  cases a with | mk l =>
  match l, h with
  | [x], _ => rfl
theorem stringslite_Index.calls (a0 a1 : ByteArray) (r : Int) (w : World) (h : stringslite_Index.f a0 a1 = some r) :
    Calls Tryd.prog 33 #[.string a0, .string a1] w fun e w' => e = .returned (.int .i64 r) ∧ Drawn0 w w' := by
  unfold stringslite_Index.f at h
  split at h
  · rename_i h1
    obtain rfl := Option.some.inj h
    rw [one_byte h1]
    refine (Tryd.stringslite_Index_one a0 _ w).mono ?_
    rintro e w' ⟨rfl, h⟩
    exact ⟨rfl, drawn_of_eq h⟩
  · cases h

/-- A text in small letters. -/
def smallByte (c : UInt8) : UInt8 := if 65 ≤ c ∧ c ≤ 90 then c ||| 32 else c
def smallOf (s : ByteArray) : ByteArray := ⟨(s.data.toList.map smallByte).toArray⟩
def scheme_small.f (s : ByteArray) : Option ByteArray := if s.size ≤ 140737488351232 then some (smallOf s) else none

/-- Block g holds these bytes first (a conversion's row). -/
def BytesB (w : World) (g : Nat) (l : List UInt8) : Prop := ∃ C : Array Value, w.heap[g]? = some (.cells C 5 (C.size, C.size + 1)) ∧ ∀ (j : Nat) (c : UInt8), l[j]? = some c → C[j]? = some (Value.int .u8 c.toNat)
theorem BytesB.new (w : World) (s : ByteArray) : BytesB (Lib.bytesWorld w 5 s) w.heap.size s.data.toList :=
  ⟨_, Lib.bytesWorld_at_new w _ s, fun j c h => by
    have hj : j < s.data.size := by have := (List.getElem?_eq_some_iff.1 h).1; simpa using this
    have hc : s.data[j]? = some c := by simpa using h
    have hj' : j < s.size := hj
    have hc2 : s.data[j] = c := by rw [Array.getElem?_eq_getElem hj] at hc; exact Option.some.inj hc
    simp [Lib.bytesCells, Array.getElem?_append, hj, hj', hc2]⟩
theorem BytesB.cell {w : World} {g : Nat} {l : List UInt8} (h : BytesB w g l) {j : Nat} {c : UInt8} (hj : l[j]? = some c) : w.cell? ⟨g, j, none⟩ = some (.int .u8 c.toNat) := by
  obtain ⟨C, h1, h2⟩ := h
  simp [World.cell?, h1, h2 j c hj]
theorem BytesB.frozen {w : World} {g : Nat} {l : List UInt8} (h : BytesB w g l) {j : Nat} {c : UInt8} (hj : l[j]? = some c) : w.frozen? ⟨g, j, none⟩ = false := by
  obtain ⟨C, h1, h2⟩ := h
  have hlt : j < C.size := (Array.getElem?_eq_some_iff.1 (h2 j c hj)).1
  simp [World.frozen?, h1]
  omega
theorem BytesB.set_ {w : World} {g : Nat} {l : List UInt8} (h : BytesB w g l) (j : Nat) (c : UInt8) : BytesB (w.setCell ⟨g, j, none⟩ (.int .u8 c.toNat)) g (l.set j c) := by
  obtain ⟨C, h1, h2⟩ := h
  refine ⟨C.setIfInBounds j (.int .u8 c.toNat), ?_, fun i d hi => ?_⟩
  · simp [World.setCell, Array.getElem?_modify, h1]
  · by_cases e : j = i
    · subst e
      have hl : j < l.length := by have := (List.getElem?_eq_some_iff.1 hi).1; simpa using this
      have hd : d = c := by simpa [hl] using hi.symm
      subst hd
      have hC : j < C.size := (Array.getElem?_eq_some_iff.1 (h2 j l[j] (by simp [hl]))).1
      simp [hC]
    · rw [List.getElem?_set_ne e] at hi
      rw [Array.getElem?_setIfInBounds_ne e]
      exact h2 i d hi
theorem BytesB.drewN {w : World} {g : Nat} {l : List UInt8} (h : BytesB w g l) (n : Nat) : BytesB (w.drewN n) g l := h
theorem BytesB.lt {w : World} {g : Nat} {l : List UInt8} (h : BytesB w g l) : g < w.heap.size := by
  obtain ⟨C, h1, _⟩ := h
  exact (Array.getElem?_eq_some_iff.1 h1).1
theorem BytesB.below {w w' : World} {g : Nat} {l : List UInt8} (h : BytesB w g l) (hb : Below w.heap.size w w') : BytesB w' g l := by
  obtain ⟨C, h1, h2⟩ := h
  exact ⟨C, (hb.block g (Array.getElem?_eq_some_iff.1 h1).1).trans h1, h2⟩

theorem or32 (c : UInt8) : Go.bits .or .u8 (c.toNat : Int) 32 = ((c ||| 32).toNat : Int) := by
  have h : ∀ n : Fin 256, Go.bits .or .u8 (n.val : Int) 32 = (((UInt8.ofNat n.val) ||| 32).toNat : Int) := by decide +kernel
  have := h ⟨c.toNat, c.toNat_lt⟩
  simpa using this
theorem small_run (w : World) (g : Nat) (cap : Nat) (l : List UInt8) (n : Nat) (hn : l.length = n) (h : BytesB w g l) :
    (convert 37 9 (.slice (some ⟨g, 0, none⟩) n cap)).run Tryd.prog w = .ok (.string ⟨l.toArray⟩) w := by
  subst hn
  have := run_convert_bytes_arg (P := Tryd.prog) w 37 5 Tryd.underlying37 Tryd.underlying5 g 0 l.length cap (l.map fun c => (c.toNat : Int)) (by simp) (fun i hi => by
    have := h.cell (j := i) (c := l[i]) (by simp [hi])
    simpa [hi] using this) 9 Tryd.underlying9
  rw [this]
  congr 2
  unfold strOfNums
  congr 1
  simp [Function.comp_def]

/-- The first k are changed. -/
def partly {α : Type} (f : α → α) (l : List α) (k : Nat) : List α := (l.take k).map f ++ l.drop k
theorem partly_get {α : Type} {f : α → α} {l : List α} {k : Nat} {c : α} (h : l[k]? = some c) : (partly f l k)[k]? = some c := by
  have hl := (List.getElem?_eq_some_iff.1 h).1
  unfold partly
  rw [List.getElem?_append_right (by simp; omega)]
  simp
  rw [show k + (k - min k l.length) = k by omega]
  exact h
theorem partly_set {α : Type} {f : α → α} {l : List α} {k : Nat} {c : α} (h : l[k]? = some c) : (partly f l k).set k (f c) = partly f l (k + 1) := by
  obtain ⟨hl, rfl⟩ := List.getElem?_eq_some_iff.1 h
  unfold partly
  rw [List.set_append_right _ _ (by simp; omega), List.drop_eq_getElem_cons hl]
  simp only [List.length_map, List.length_take]
  rw [show k - min k l.length = 0 by omega, List.set_cons_zero, List.take_succ_eq_append_getElem hl, List.map_append, List.append_assoc]
  rfl
theorem partly_same {α : Type} {f : α → α} {l : List α} {k : Nat} {c : α} (h : l[k]? = some c) (e : f c = c) : partly f l (k + 1) = partly f l k := by
  have hs := partly_set (f := f) h
  have hg := partly_get (f := f) h
  rw [← hs, e]
  apply List.ext_getElem?
  intro i
  by_cases hi : k = i
  · subst hi
    rw [List.getElem?_set_self (List.getElem?_eq_some_iff.1 hg).1, hg]
  · rw [List.getElem?_set_ne hi]
theorem partly_length {α : Type} (f : α → α) (l : List α) (k : Nat) : (partly f l k).length = l.length := by simp [partly]; omega
theorem partly_zero {α : Type} (f : α → α) (l : List α) : partly f l 0 = l := by simp [partly]
theorem partly_all {α : Type} (f : α → α) (l : List α) : partly f l l.length = l.map f := by simp [partly]
theorem small_high {c : UInt8} (h1 : (65 : Int) ≤ (c.toNat : Int)) (h2 : (c.toNat : Int) ≤ 90) : smallByte c = c ||| 32 := by
  unfold smallByte
  rw [if_pos]
  exact ⟨UInt8.le_iff_toNat_le.2 (by simp; omega), UInt8.le_iff_toNat_le.2 (by simp; omega)⟩
theorem small_else {c : UInt8} (h : ¬ ((65 : Int) ≤ (c.toNat : Int) ∧ (c.toNat : Int) ≤ 90)) : smallByte c = c := by
  unfold smallByte
  rw [if_neg]
  rintro ⟨h1, h2⟩
  have := UInt8.le_iff_toNat_le.1 h1
  have := UInt8.le_iff_toNat_le.1 h2
  simp at *
  omega

theorem scheme_small.calls (a0 : ByteArray) (r : ByteArray) (w : World) (h : scheme_small.f a0 = some r) :
    Calls Tryd.prog 17 #[.string a0] w fun e w' => e = .returned (.string r) ∧ Below w.heap.size w w' := by
  unfold scheme_small.f at h
  split at h
  · rename_i hs
    obtain rfl := Option.some.inj h
    have hcv := fun w s => Lib.run_convert_string_bytes (P := Tryd.prog) w 9 37 5 s Tryd.underlying9 Tryd.underlying37 Tryd.underlying5
    have HB := Lib.hid (bytesWorld_below w 5 a0)
    have HN := Lib.hid (BytesB.new w a0)
    have HL := Lib.hid (show a0.data.toList.length = a0.size by simp)
    clear h
    go_enter Tryd.func17, Tryd.ntmps17
    go_wp2
    generalize Lib.bytesWorld w 5 a0 = W at HB HN ⊢
    generalize grownCap w a0.size 0 5 = cap
    clear hcv
    go_loopg [10] a0.size (fun n v10 w' => Hid (∃ k : Nat, v10 = .int .i64 k ∧ k ≤ a0.size ∧ n = a0.size - k ∧ BytesB w' w.heap.size (partly smallByte a0.data.toList k) ∧ Below w.heap.size w w'))
    case atStart => exact ⟨0, rfl, Nat.zero_le _, rfl, by rw [partly_zero]; exact HN.out, HB.out⟩
    case round =>
      obtain ⟨k, rfl, hk, hn, hb, hw⟩ := hrel.out
      clear hrel HB HN
      have HNn := Lib.hid hn
      have HW := Lib.hid hw
      have HBB := Lib.hid hb
      clear hn hw hb
      by_cases hlt : k < a0.size
      · obtain ⟨c, hc⟩ : ∃ c, a0.data.toList[k]? = some c := ⟨_, List.getElem?_eq_getElem (by rw [HL.out]; exact hlt)⟩
        have hcell := HBB.out.cell (partly_get hc)
        have hfz := HBB.out.frozen (partly_get hc)
        have HC := Lib.hid hc
        have hor := or32 c
        clear hc
        by_cases h1 : (65 : Int) ≤ (c.toNat : Int)
        · by_cases h2 : (c.toNat : Int) ≤ 90
          · go_wp2
            go_roundg (a0.size - (k + 1))
            case measure => have := HNn.out; omega
            case rel =>
              have := HBB.out.set_ k (smallByte c)
              rw [partly_set HC.out, small_high h1 h2] at this
              exact ⟨k + 1, by simp, by omega, rfl, this, HW.out.setCell (p := ⟨w.heap.size, k, none⟩) (Nat.le_refl _) _⟩
          · go_wp2
            go_roundg (a0.size - (k + 1))
            case measure => have := HNn.out; omega
            case rel => exact ⟨k + 1, by simp, by omega, rfl, by rw [partly_same HC.out (small_else (by omega))]; exact HBB.out, HW.out⟩
        · go_wp2
          go_roundg (a0.size - (k + 1))
          case measure => have := HNn.out; omega
          case rel => exact ⟨k + 1, by simp, by omega, rfl, by rw [partly_same HC.out (small_else (by omega))]; exact HBB.out, HW.out⟩
      · obtain rfl : k = a0.size := by omega
        have hb := HBB.out
        rw [← HL.out, partly_all] at hb
        have HL' : (a0.data.toList.map smallByte).length = a0.size := by rw [List.length_map]; exact HL.out
        have hrun := small_run wr w.heap.size cap _ a0.size HL' hb
        clear hb HL'
        go_wp2
        go_ret
        exact ⟨rfl, HW.out⟩
  · cases h
end Go.Proofs.YtakbjmmelfcjeaaDoor
