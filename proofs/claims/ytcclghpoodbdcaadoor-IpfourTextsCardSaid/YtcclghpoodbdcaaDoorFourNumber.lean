/- ipfour.figure, ipfour.number. -/
import Derived.Test.YtcclghpoodbdcaaDoorBytes
import Derived.Test.YtcclghpoodbdcaaDoorFourWorld
import Derived.Deep.LoopGhost
import Derived.Outline
import Derived.Outline
set_option linter.unusedVariables false
set_option linter.unusedSimpArgs false
set_option maxRecDepth 100000
namespace Go.Proofs.YtcclghpoodbdcaaDoor
open Go.RowKit Four

theorem ret_int' {k : IntKind} {a b : Int} (h : a = b) : Ending.returned (.int k a) = .returned (.int k b) := by rw [h]
theorem figure_calls (c : UInt8) (w : World) : Calls Tryd.prog 29 #[.int .u8 c.toNat] w fun e w' => e = .returned (.int .i64 (figure c)) ∧ w = w' := by
  have hf : figure c = if 48 ≤ c.toNat ∧ c.toNat ≤ 57 then c.toNat - 48 else if 97 ≤ c.toNat ∧ c.toNat ≤ 102 then c.toNat - 87 else if 65 ≤ c.toNat ∧ c.toNat ≤ 70 then c.toNat - 55 else 99 := rfl
  have hc := c.toNat_lt
  have HF := Lib.hid hf
  clear hf
  generalize figure c = F at HF ⊢
  generalize c.toNat = n at HF hc ⊢
  by_cases h1 : 48 ≤ n ∧ n ≤ 57
  · have hF := Lib.hid (show F = n - 48 by rw [HF.out, if_pos h1])
    obtain ⟨a1, a2⟩ := h1
    have b1 : (48 : Int) ≤ (n : Int) := by omega
    have b2 : (n : Int) ≤ 57 := by omega
    clear HF
    go_enter Tryd.func29, Tryd.ntmps29
    go_wp2_with fail
    go_ret
    exact ⟨ret_int' (by rw [hF.out]; omega), rfl⟩
  · by_cases h2 : 97 ≤ n ∧ n ≤ 102
    · have hF := Lib.hid (show F = n - 87 by rw [HF.out, if_neg h1, if_pos h2])
      obtain ⟨a1, a2⟩ := h2
      have b1 : (97 : Int) ≤ (n : Int) := by omega
      have b2 : (n : Int) ≤ 102 := by omega
      clear HF h1
      go_enter Tryd.func29, Tryd.ntmps29
      go_wp2_with fail
      go_ret
      exact ⟨ret_int' (by rw [hF.out]; omega), rfl⟩
    · by_cases h3 : 65 ≤ n ∧ n ≤ 70
      · have hF := Lib.hid (show F = n - 55 by rw [HF.out, if_neg h1, if_neg h2, if_pos h3])
        obtain ⟨a1, a2⟩ := h3
        have b1 : (65 : Int) ≤ (n : Int) := by omega
        have b2 : (n : Int) ≤ 70 := by omega
        clear HF h1 h2
        go_enter Tryd.func29, Tryd.ntmps29
        go_wp2_with fail
        go_ret
        exact ⟨ret_int' (by rw [hF.out]; omega), rfl⟩
      · have hF := Lib.hid (show F = 99 by rw [HF.out, if_neg h1, if_neg h2, if_neg h3])
        clear HF
        have h1' : (n : Int) < 48 ∨ 57 < (n : Int) := by omega
        have h2' : (n : Int) < 97 ∨ 102 < (n : Int) := by omega
        have h3' : (n : Int) < 65 ∨ 70 < (n : Int) := by omega
        clear h1 h2 h3
        rcases h1' with h1 | h1 <;> rcases h2' with h2 | h2 <;> rcases h3' with h3 | h3 <;> first | (exfalso; omega) | (
          go_enter Tryd.func29, Tryd.ntmps29
          go_wp2_with fail
          go_ret
          exact ⟨ret_int' (by rw [hF.out]; rfl), rfl⟩)

/-! ### ipfour.number -/
/-- A text's base, and where its digits begin. -/
def kindL : List UInt8 → Nat × Nat
  | c :: d :: _ => if c = 48 then (if d = 120 ∨ d = 88 then (16, 2) else (8, 1)) else (10, 0)
  | _ => (10, 0)
theorem numL_kind : ∀ l : List UInt8, l ≠ [] → numL l = numR (kindL l).1 (l.drop (kindL l).2) 0
  | [], h => absurd rfl h
  | [c], _ => rfl
  | c :: d :: l, _ => by
    show (if c = 48 then (if d = 120 ∨ d = 88 then numR 16 l 0 else numR 8 (d :: l) 0) else numR 10 (c :: d :: l) 0) = numR (if c = 48 then (if d = 120 ∨ d = 88 then (16, 2) else (8, 1)) else (10, 0)).1 ((c :: d :: l).drop (if c = 48 then (if d = 120 ∨ d = 88 then (16, 2) else (8, 1)) else (10, 0)).2) 0
    by_cases h1 : c = 48
    · rw [if_pos h1, if_pos h1]
      by_cases h2 : d = 120 ∨ d = 88
      · rw [if_pos h2, if_pos h2]; rfl
      · rw [if_neg h2, if_neg h2]; rfl
    · rw [if_neg h1, if_neg h1]; rfl
/-- What number answers. -/
def numV (o : Option Nat) : Value := .tuple #[.int .i64 (o.getD 0 : Nat), .bool o.isSome]
/-- What stands at a round's head. -/
structure NumRel (w : World) (bs : Nat) (r : List UInt8) (bb nb g : Nat) (k n : Nat) (w' : World) : Prop where
  le : k ≤ r.length
  n_le : n ≤ most
  num : numR bs (r.drop k) n = numR bs r 0
  base : Blk w' bb 3 #[.int .i64 bs]
  box : Blk w' nb 3 #[.int .i64 n]
  row : BytesB w' g r
  be : Below w.heap.size w w'
  b0 : w.heap.size ≤ nb
  ne : bb ≠ nb ∧ g ≠ nb
theorem NumRel.next {w w' : World} {bs : Nat} {r : List UInt8} {bb nb g k n : Nat} {c : UInt8} (h : NumRel w bs r bb nb g k n w') (hc : r[k]? = some c) (hf : figure c < bs) :
    NumRel w bs r bb nb g (k + 1) (min (n * bs + figure c) most) (w'.setCell ⟨nb, 0, none⟩ (.int .i64 ((min (n * bs + figure c) most : Nat) : Int))) := by
  obtain ⟨hl, hg⟩ := List.getElem?_eq_some_iff.1 hc
  refine ⟨hl, Nat.min_le_right _ _, ?_, h.base.far h.ne.1 _, h.box.set_ 0 _, ?_, h.be.setCell h.b0 _, h.b0, h.ne⟩
  · rw [← h.num, List.drop_eq_getElem_cons hl, hg]
    show _ = if figure c < bs then _ else none
    rw [if_pos hf]
  · obtain ⟨C, h1, h2⟩ := h.row
    exact ⟨C, (Below.heap_setCell _ _ _ _ h.ne.2).trans h1, h2⟩
theorem NumRel.bad {w w' : World} {bs : Nat} {r : List UInt8} {bb nb g k n : Nat} {c : UInt8} (h : NumRel w bs r bb nb g k n w') (hc : r[k]? = some c) (hf : ¬ figure c < bs) : numR bs r 0 = none := by
  obtain ⟨hl, hg⟩ := List.getElem?_eq_some_iff.1 hc
  rw [← h.num, List.drop_eq_getElem_cons hl, hg]
  show (if figure c < bs then _ else none) = none
  rw [if_neg hf]
theorem NumRel.done {w w' : World} {bs : Nat} {r : List UInt8} {bb nb g n : Nat} (h : NumRel w bs r bb nb g r.length n w') : numR bs r 0 = some n := by
  rw [← h.num, List.drop_length]
  rfl

theorem byte_head {s : ByteArray} {c : UInt8} {l : List UInt8} (h : s.data.toList = c :: l) (hp : 0 < s.size) : s[0] = c := by
  have h2 : s.data[0]? = some c := by rw [← Array.getElem?_toList, h]; rfl
  exact (Array.getElem?_eq_some_iff.1 h2).2
theorem hp_no {a d : UInt8} {l : List UInt8} (h : ¬ d = a) : Lib.hasPrefix (48 :: d :: l) [48, a] = false := by
  have h' : ¬ a = d := fun e => h e.symm
  simp [Lib.hasPrefix, List.isPrefixOf, h']
theorem hp_no0 {a c d : UInt8} {l : List UInt8} (h : c ≠ 48) : Lib.hasPrefix (c :: d :: l) [48, a] = false := by
  have h' : ¬ 48 = c := fun e => h e.symm
  simp [Lib.hasPrefix, List.isPrefixOf, h']
theorem hp_no1 {a c : UInt8} : Lib.hasPrefix [c] [48, a] = false := by
  simp [Lib.hasPrefix, List.isPrefixOf]
theorem ne48 {c : UInt8} (h : c ≠ 48) : ((c.toNat : Int) == 48) = false := by
  rw [beq_eq_false_iff_ne]
  intro e
  exact h (UInt8.toNat_inj.1 (by have : (48 : UInt8).toNat = 48 := rfl
                                 omega))
/-- The closure: a digit is put behind. -/
theorem add_calls (n b d : Nat) (hn : n ≤ most) (hb : b ≤ 16) (hd : d ≤ 99) {w : World} {nb bb : Nat} (h1 : w.cell? ⟨nb, 0, none⟩ = some (.int .i64 n)) (hf : w.frozen? ⟨nb, 0, none⟩ = false) (h2 : w.cell? ⟨bb, 0, none⟩ = some (.int .i64 b)) :
    Calls Tryd.prog 28 #[.int .i64 d, .pointer (some ⟨nb, 0, none⟩), .pointer (some ⟨bb, 0, none⟩)] w fun e w' => e = .returned (.tuple #[]) ∧ w.setCell ⟨nb, 0, none⟩ (.int .i64 ((min (n * b + d) most : Nat) : Int)) = w' := by
  unfold most at hn
  have hp : n * b ≤ 1099511627776 * 16 := Nat.mul_le_mul hn hb
  have hm := Lib.hid (show ((min (n * b + d) most : Nat) : Int) = min ((n : Int) * b + d) 1099511627776 by unfold most; omega)
  have hp1 : (n : Int) * (b : Int) ≤ 17592186044416 := by have : ((n * b : Nat) : Int) = (n : Int) * b := by simp
                                                          omega
  have hp0 : 0 ≤ (n : Int) * (b : Int) := by have : ((n * b : Nat) : Int) = (n : Int) * b := by simp
                                             omega
  go_enter Tryd.func28, Tryd.ntmps28
  go_wp2_with fail
  go_end0
  exact ⟨rfl, by rw [hm.out]⟩
end Go.Proofs.YtcclghpoodbdcaaDoor
