/- Texts cut behind their schemes, in plain lists. -/
import Derived.Test.YtakbjmmelfcjeaaPureScheme
import Derived.Test.YtakbjmmelfcjeaaPSchemex6
import Derived.Test.YtakbjmmelfcjeaaPSchemex5
import Derived.Test.YtakbjmmelfcjeaaPSchemex7
import Derived.Test.YtakbjmmelfcjeaaPSchemex7
set_option linter.unusedVariables false
set_option linter.unusedSimpArgs false
namespace Go.Proofs.Ytakbjmmelfcjeaa.Plain
open Go.RowKit Go.Proofs.YtakbjmmelfcjeaaW.PrintWords Go.Proofs.Ytakbjmmelfcjeaa.PScheme Go.Proofs.Ytakbjmmelfcjeaa

/-! ### The first place of a byte -/
theorem indexByte_at {c : UInt8} : ∀ {l : List UInt8} {i : Nat}, l[i]? = some c → (∀ (j : Nat) (d : UInt8), j < i → l[j]? = some d → d ≠ c) → Lib.indexByte l c = i
  | [], i, h, _ => by simp at h
  | b :: l, 0, h, _ => by
    obtain rfl : b = c := by simpa using h
    simp [Lib.indexByte]
  | b :: l, i + 1, h, hn => by
    have hb : b ≠ c := hn 0 b (by omega) rfl
    have ih := indexByte_at (l := l) (i := i) (c := c) (by simpa using h) (fun j d hj hd => hn (j + 1) d (by omega) (by simpa using hd))
    simp only [Lib.indexByte, ih]
    rw [if_neg (by simpa using hb), if_neg (by simp)]
    simp
theorem indexByte_none {c : UInt8} : ∀ {l : List UInt8}, (∀ d ∈ l, d ≠ c) → Lib.indexByte l c = -1
  | [], _ => rfl
  | b :: l, h => by
    have ih := indexByte_none (l := l) (c := c) (fun d hd => h d (by simp [hd]))
    have hb : b ≠ c := h b (by simp)
    simp only [Lib.indexByte, ih]
    rw [if_neg (by simpa using hb)]
    rfl
theorem indexByte_lt (l : List UInt8) (c : UInt8) : Lib.indexByte l c < l.length ∨ Lib.indexByte l c = -1 := by
  induction l with
  | nil => right; rfl
  | cons b l ih =>
    simp only [Lib.indexByte]
    split
    · left; simp
    · split
      · right; rfl
      · rename_i h1 h2
        left
        rcases ih with h | h
        · simp; omega
        · simp [h] at h2

/-! ### Cut -/
def cutOf (s : ByteArray) : ByteArray × ByteArray × Bool :=
  if 0 ≤ Lib.indexByte s.data.toList 58 ∧ mayOf (s.extract 0 (Lib.indexByte s.data.toList 58).toNat) = true then
    (smallOf (s.extract 0 (Lib.indexByte s.data.toList 58).toNat), s.extract ((Lib.indexByte s.data.toList 58).toNat + 1) s.size, true)
  else (⟨#[]⟩, s, false)
theorem extract_size_le (s : ByteArray) (k : Nat) : (s.extract 0 k).size ≤ s.size := by
  rw [← len_data, ← len_data, take_data]
  simp
  omega
theorem cut_is (s : ByteArray) (hs : s.size ≤ 140737488351232) : scheme_Cut.f s = some (cutOf s) := by
  have hix : stringslite_Index.f s ⟨#[58]⟩ = some (Lib.indexByte s.data.toList 58) := rfl
  have hlt := indexByte_lt s.data.toList 58
  rw [len_data] at hlt
  have hge := Lib.indexByte_ge s.data.toList 58
  unfold scheme_Cut.f strings_Cut.f stringslite_Cut.f cutOf
  rw [hix]
  simp only [Option.bind_some]
  generalize Lib.indexByte s.data.toList 58 = i at *
  have h1 : (((⟨#[58]⟩ : ByteArray).size : Nat) : Int) = 1 := rfl
  by_cases h0 : 0 ≤ i
  · have hw : wrap64 (i + 1) = i + 1 := wrap_in (by omega) (by omega)
    have hsz := extract_size_le s i.toNat
    have hm : scheme_May.f (s.extract 0 i.toNat) = some (mayOf (s.extract 0 i.toNat)) := by unfold scheme_May.f; rw [if_pos (by omega)]
    have hsm : scheme_small.f (s.extract 0 i.toNat) = some (smallOf (s.extract 0 i.toNat)) := by unfold scheme_small.f; rw [if_pos (by omega)]
    rw [if_pos h0, if_pos h0, if_pos (by omega), h1, hw, if_pos (by omega), if_pos (by omega)]
    simp only [Option.bind_some, if_true, hm, hsm, h0, true_and]
    rw [show (i + 1).toNat = i.toNat + 1 by omega]
    cases mayOf (s.extract 0 i.toNat) <;> simp
  · rw [if_neg h0, if_neg (by simp [h0])]
    simp

/-! ### The reference -/
theorem small_byte (c : UInt8) : (smallByte c).toNat = if 65 ≤ c.toNat ∧ c.toNat ≤ 90 then (c.toNat + 32) % 256 else c.toNat := by
  have := all_bytes (p := fun n => (smallByte (UInt8.ofNat n)).toNat = if 65 ≤ n ∧ n ≤ 90 then (n + 32) % 256 else n) (by decide +kernel) c
  simpa using this
def numsOf (l : List UInt8) : List Int := l.map fun c => (c.toNat : Int)
theorem strOfNums_of (l : List UInt8) : strOfNums (numsOf l) = ⟨l.toArray⟩ := by
  unfold strOfNums numsOf
  congr 1
  simp [Function.comp_def]
theorem small_round (s : ByteArray) (i : Nat) (c : UInt8) (k : Nat) (l : List UInt8) (hs : s.size ≤ 140737488351232) (hl : l.length ≤ s.size) (h : s.data.toList[i]? = some c) :
    gatepostref10_Small.l0 (k + 1) s (numsOf l) i = gatepostref10_Small.l0 k s (numsOf (l ++ [smallByte c])) ((i + 1 : Nat) : Int) := by
  have hi : i < s.size := by have := (List.getElem?_eq_some_iff.1 h).1; simpa using this
  have hw : wrap64 ((i : Int) + 1) = ((i + 1 : Nat) : Int) := by rw [wrap_in (by omega) (by omega)]; omega
  have hlen : (numsOf l).length < 140737488355328 := by simp [numsOf]; omega
  have hn : numsOf (l ++ [smallByte c]) = numsOf l ++ [((smallByte c).toNat : Int)] := by simp [numsOf]
  simp only [gatepostref10_Small.l0]
  rw [if_pos (by omega), if_pos (by omega), bt_nat s i c h, hw, hn, small_byte]
  have hc := c.toNat_lt
  by_cases h1 : 65 ≤ c.toNat
  · by_cases h2 : c.toNat ≤ 90
    · rw [if_pos (by omega), if_pos (by omega), if_pos hlen, if_pos ⟨h1, h2⟩]
      congr 3
    · rw [if_pos (by omega), if_neg (by omega), if_pos hlen, if_neg (by omega)]
  · rw [if_neg (by omega), if_pos hlen, if_neg (by omega)]
theorem small_loop (s : ByteArray) (hs : s.size ≤ 140737488351232) : ∀ (d i : Nat), i ≤ s.size → s.size - i = d →
    Ev (fun k => gatepostref10_Small.l0 k s (numsOf ((s.data.toList.take i).map smallByte)) i) (smallOf s) := by
  intro d
  induction d with
  | zero =>
    intro i hi hd
    obtain rfl : i = s.size := by omega
    refine Ev.step (f := fun _ => some (smallOf s)) (fun k => ?_) (Ev.now _)
    simp only [gatepostref10_Small.l0]
    rw [if_neg (by omega), strOfNums_of, List.take_of_length_le (by rw [len_data]; exact Nat.le_refl _)]
    rfl
  | succ d ih =>
    intro i hi hd
    obtain ⟨c, hc⟩ := byte_some (s := s) (i := i) (by omega)
    have h := ih (i + 1) (by omega) (by omega)
    obtain ⟨hl, hg⟩ := List.getElem?_eq_some_iff.1 hc
    rw [List.take_succ_eq_append_getElem hl, hg, List.map_append] at h
    exact Ev.step (fun k => small_round s i c k _ hs (by simp; omega) hc) h
theorem small_ref (s : ByteArray) (hs : s.size ≤ 140737488351232) : Ev (fun k => gatepostref10_Small.f k s) (smallOf s) := by
  have := small_loop s hs s.size 0 (Nat.zero_le _) rfl
  simp only [List.take_zero, List.map_nil, numsOf] at this
  exact this
theorem refcut_loop (s : ByteArray) (hs : s.size ≤ 140737488351232) : ∀ (d i : Nat), i ≤ s.size → s.size - i = d → (∀ (j : Nat) (b : UInt8), j < i → s.data.toList[j]? = some b → b ≠ 58) →
    Ev (fun k => gatepostref10_Cut.l0 k s i) (cutOf s) := by
  intro d
  induction d with
  | zero =>
    intro i hi hd hn
    obtain rfl : i = s.size := by omega
    refine Ev.step (f := fun _ => some (cutOf s)) (fun k => ?_) (Ev.now _)
    simp only [gatepostref10_Cut.l0]
    rw [if_neg (by omega)]
    have : Lib.indexByte s.data.toList 58 = -1 := indexByte_none fun d hd => by
      obtain ⟨j, hj⟩ := List.getElem?_of_mem hd
      have hl := (List.getElem?_eq_some_iff.1 hj).1
      exact hn j d (by rw [len_data] at hl; exact hl) hj
    unfold cutOf
    rw [this]
    simp
  | succ d ih =>
    intro i hi hd hn
    obtain ⟨c, hc⟩ := byte_some (s := s) (i := i) (by omega)
    have hw : wrap64 ((i : Int) + 1) = ((i + 1 : Nat) : Int) := by rw [wrap_in (by omega) (by omega)]; omega
    by_cases h58 : c = 58
    · subst h58
      have hix : Lib.indexByte s.data.toList 58 = i := indexByte_at hc hn
      have hsz := extract_size_le s i
      have hr : ∀ b : Bool, mayOf (s.extract 0 i) = b → Ev (fun k => gatepostref10_Cut.j1 k s i b) (cutOf s) := by
        intro b hb
        unfold cutOf
        rw [hix]
        simp only [Int.toNat_natCast, hb]
        cases b with
        | true =>
          refine Ev.step (f := fun k => (gatepostref10_Small.f k (s.extract 0 i)).bind fun t => some (t, s.extract (i + 1) s.size, true)) (fun k => ?_) ?_
          · simp only [gatepostref10_Cut.j1, if_true, Int.toNat_natCast, hw]
            rw [if_pos (by omega), if_pos (by omega)]
            congr 1
            funext t
            rw [if_pos (by omega), if_pos (by omega)]
          · refine Ev.bind (small_ref _ (by omega)) ?_
            simp only [and_true, if_pos (show (0 : Int) ≤ (i : Int) by omega)]
            exact Ev.now _
        | false =>
          refine Ev.step (f := fun k => some ((⟨#[]⟩ : ByteArray), s, false)) (fun k => ?_) ?_
          · simp only [gatepostref10_Cut.j1, Bool.false_eq_true, if_false]
            rw [if_pos (by omega), if_pos (by omega), bt_nat s i 58 hc]
            rfl
          · simp only [Bool.false_eq_true, and_false, if_false]
            exact Ev.now _
      refine Ev.step (f := fun k => (gatepostref10_May.f k (s.extract 0 i)).bind fun t => gatepostref10_Cut.j1 k s i t) (fun k => ?_) ?_
      · simp only [gatepostref10_Cut.l0]
        rw [if_pos (by omega), if_pos (by omega), bt_nat s i 58 hc, if_pos (by rfl), if_pos (by omega), Int.toNat_natCast]
      · exact Ev.bind (may_ref _ (by omega)) (hr _ rfl)
    · have hne : ¬ ((c.toNat : Int) = 58) := fun e => h58 (UInt8.toNat_inj.1 (by simp; omega))
      refine Ev.step (f := fun k => gatepostref10_Cut.j1 k s i false) (fun k => ?_) ?_
      · simp only [gatepostref10_Cut.l0]
        rw [if_pos (by omega), if_pos (by omega), bt_nat s i c hc, if_neg hne]
      · refine Ev.step (f := fun k => gatepostref10_Cut.l0 k s ((i + 1 : Nat) : Int)) (fun k => ?_) ?_
        · simp only [gatepostref10_Cut.j1, Bool.false_eq_true, if_false]
          rw [if_pos (by omega), if_pos (by omega), bt_nat s i c hc, if_neg hne, hw]
        · refine ih (i + 1) (by omega) (by omega) fun j b hj hb => ?_
          by_cases e : j = i
          · subst e
            rw [hc] at hb
            obtain rfl := Option.some.inj hb
            exact h58
          · exact hn j b (by omega) hb
theorem refcut_is (s : ByteArray) (hs : s.size ≤ 140737488351232) : Ev (fun k => gatepostref10_Cut.f k s) (cutOf s) :=
  refcut_loop s hs s.size 0 (Nat.zero_le _) rfl fun j b hj => by omega
end Go.Proofs.Ytakbjmmelfcjeaa.Plain
