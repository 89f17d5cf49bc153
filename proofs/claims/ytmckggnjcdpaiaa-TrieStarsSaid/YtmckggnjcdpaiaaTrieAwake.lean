/- Three rules, and two names: what each law of tries begins with. -/
import Derived.Test.YtmckggnjcdpaiaaTrieRef
set_option linter.unusedSimpArgs false
set_option linter.unusedVariables false
namespace Go.Proofs.Ytmckggnjcdpaiaa
open Go.RowKit
attribute [local go_sem] max_i64 min_i64

theorem rowAt_blk {α : Type} {f : α → List Value} {sz : Nat} (hf : ∀ x, (f x).length = sz) {w : World} {g : Nat} {t : TypeId} {cs : Array Value} {l : List α} (h : Blk w g t cs) (hc : cs.toList = l.flatMap f) : RowAt f sz w (some ⟨g, 0, none⟩) l := by
  intro i x hx
  refine ⟨g, 0, rfl, fun j u hu => ?_⟩
  have hj : j < sz := by rw [← hf x]; exact (List.getElem?_eq_some_iff.1 hu).1
  rw [h.cell, Nat.zero_add, ← Array.getElem?_toList, hc, flat_get hf l i j x hx hj]
  exact hu
theorem strs_cells : ∀ l : List ByteArray, (l.map Value.string).toArray.toList = l.flatMap strC
  | [] => rfl
  | x :: l => by have := strs_cells l; simp [strC] at this ⊢; exact this
theorem strs_blk {w : World} {g : Nat} {t : TypeId} {l : List ByteArray} (h : Blk w g t (l.map Value.string).toArray) : RowAt strC 1 w (some ⟨g, 0, none⟩) l :=
  rowAt_blk (f := strC) (fun _ => rfl) h (strs_cells l)
def ck : ByteArray := ⟨#[99, 107]⟩
def www : ByteArray := ⟨#[119, 119, 119]⟩
def someR : List Rule := [⟨[ck], false⟩, ⟨[ck, star], false⟩, ⟨[ck, www], true⟩]

theorem some_calls (w : World) : Calls Try.prog 17 #[] w fun e w' =>
    (∃ (A : Option Addr) (l : List RulV), e = .returned (.slice A l.length 3) ∧ l.length = 3 ∧ l.map (·.r) = someR ∧ RowAt RulV.cells 2 w' A l ∧ ∀ x ∈ l, x.ok w') ∧ Below w.heap.size w w' := by
  go_enter Try.func17, Try.ntmps17
  go_wp2
  go_ret
  have b0 := ((((Blk.new w 9 ([ck].map Value.string).toArray).alloc (.cells ([ck, star].map Value.string).toArray 9)).alloc (.cells ([ck, www].map Value.string).toArray 9)).alloc (.cells #[.slice (some ⟨w.heap.size, 0, none⟩) 1 1, .bool false, .slice (some ⟨w.heap.size + 1, 0, none⟩) 2 2, .bool false, .slice (some ⟨w.heap.size + 1 + 1, 0, none⟩) 2 2, .bool true] 34))
  have b1 := (((Blk.new (w.alloc (.cells ([ck].map Value.string).toArray 9)) 9 ([ck, star].map Value.string).toArray).alloc (.cells ([ck, www].map Value.string).toArray 9)).alloc (.cells #[.slice (some ⟨w.heap.size, 0, none⟩) 1 1, .bool false, .slice (some ⟨w.heap.size + 1, 0, none⟩) 2 2, .bool false, .slice (some ⟨w.heap.size + 1 + 1, 0, none⟩) 2 2, .bool true] 34))
  have b2 := ((Blk.new ((w.alloc (.cells ([ck].map Value.string).toArray 9)).alloc (.cells ([ck, star].map Value.string).toArray 9)) 9 ([ck, www].map Value.string).toArray).alloc (.cells #[.slice (some ⟨w.heap.size, 0, none⟩) 1 1, .bool false, .slice (some ⟨w.heap.size + 1, 0, none⟩) 2 2, .bool false, .slice (some ⟨w.heap.size + 1 + 1, 0, none⟩) 2 2, .bool true] 34))
  have b3 := Blk.new (((w.alloc (.cells ([ck].map Value.string).toArray 9)).alloc (.cells ([ck, star].map Value.string).toArray 9)).alloc (.cells ([ck, www].map Value.string).toArray 9)) 34 #[.slice (some ⟨w.heap.size, 0, none⟩) 1 1, .bool false, .slice (some ⟨w.heap.size + 1, 0, none⟩) 2 2, .bool false, .slice (some ⟨w.heap.size + 1 + 1, 0, none⟩) 2 2, .bool true]
  have z1 : (w.alloc (.cells ([ck].map Value.string).toArray 9)).heap.size = w.heap.size + 1 := by simp
  have z2 : ((w.alloc (.cells ([ck].map Value.string).toArray 9)).alloc (.cells ([ck, star].map Value.string).toArray 9)).heap.size = w.heap.size + 1 + 1 := by simp
  have z3 : (((w.alloc (.cells ([ck].map Value.string).toArray 9)).alloc (.cells ([ck, star].map Value.string).toArray 9)).alloc (.cells ([ck, www].map Value.string).toArray 9)).heap.size = w.heap.size + 1 + 1 + 1 := by simp
  rw [z1] at b1
  rw [z2] at b2
  rw [z3] at b3
  refine ⟨⟨some ⟨w.heap.size + 1 + 1 + 1, 0, none⟩, [⟨some ⟨w.heap.size, 0, none⟩, 1, ⟨[ck], false⟩⟩, ⟨some ⟨w.heap.size + 1, 0, none⟩, 2, ⟨[ck, star], false⟩⟩, ⟨some ⟨w.heap.size + 1 + 1, 0, none⟩, 2, ⟨[ck, www], true⟩⟩], rfl, rfl, rfl, rowAt_blk (f := RulV.cells) (fun _ => rfl) b3 rfl, ?_⟩, ((((Below.refl _ w).alloc (Nat.le_refl _) _).alloc (by simp) _).alloc (by simp; omega) _).alloc (by simp; omega) _⟩
  intro x hx
  simp only [List.mem_cons, List.not_mem_nil, or_false] at hx
  rcases hx with rfl | rfl | rfl
  · exact ⟨Nat.le_refl _, by simp [maxLen], strs_blk b0⟩
  · exact ⟨Nat.le_refl _, by simp [maxLen], strs_blk b1⟩
  · exact ⟨Nat.le_refl _, by simp [maxLen], strs_blk b2⟩

theorem suf_fresh {wt w : World} {t : Nat} {a : Addrs} {l : List Rule} {v : Int} (h : TrieOk wt t a l v) (hb : Below wt.heap.size wt w) (ls : List ByteArray) (hl : ls.length ≤ 900) :
    Calls Try.prog 12 #[.pointer (some ⟨t, 0, none⟩), .slice (some ⟨w.heap.size, 0, none⟩) ls.length ls.length] (w.alloc (.cells (ls.map Value.string).toArray 9)) fun e w' => e = .returned (.int .i64 (suffixR l ls)) ∧ Below wt.heap.size wt w' := by
  have h1 := (h.keep hb).keep ((Below.refl _ w).alloc (Nat.le_refl _) (.cells (ls.map Value.string).toArray 9))
  refine (suffix_calls h1 _ _ ls (strs_blk (Blk.new w _ _)) (Nat.le_refl _) (by simp only [maxLen]; omega) hl).mono ?_
  rintro e w' ⟨rfl, hb'⟩
  exact ⟨rfl, belowOn (hb.alloc hb.size _) (Nat.le_trans hb.size (by simp)) hb'⟩

theorem suf_fresh2 {wt w : World} {t : Nat} {a : Addrs} {l : List Rule} {v : Int} (h : TrieOk wt t a l v) (hb : Below wt.heap.size wt w) (x y : ByteArray) (n : Int) (hn : suffixR l [x, y] = n) :
    Calls Try.prog 12 #[.pointer (some ⟨t, 0, none⟩), .slice (some ⟨w.heap.size, 0, none⟩) 2 2] (w.alloc (.cells #[.string x, .string y] 9)) fun e w' => e = .returned (.int .i64 n) ∧ Below wt.heap.size wt w' := by
  subst hn
  exact suf_fresh h hb [x, y] (by simp)
theorem suf_fresh3 {wt w : World} {t : Nat} {a : Addrs} {l : List Rule} {v : Int} (h : TrieOk wt t a l v) (hb : Below wt.heap.size wt w) (x y z : ByteArray) (n : Int) (hn : suffixR l [x, y, z] = n) :
    Calls Try.prog 12 #[.pointer (some ⟨t, 0, none⟩), .slice (some ⟨w.heap.size, 0, none⟩) 3 3] (w.alloc (.cells #[.string x, .string y, .string z] 9)) fun e w' => e = .returned (.int .i64 n) ∧ Below wt.heap.size wt w' := by
  subst hn
  exact suf_fresh h hb [x, y, z] (by simp)
theorem suf_empty {wt w : World} {t : Nat} {a : Addrs} {l : List Rule} {v : Int} (h : TrieOk wt t a l v) (hb : Below wt.heap.size wt w) (n : Int) (hn : suffixR l [] = n) :
    Calls Try.prog 12 #[.pointer (some ⟨t, 0, none⟩), .slice none 0 0] w fun e w' => e = .returned (.int .i64 n) ∧ Below wt.heap.size wt w' := by
  subst hn
  refine (suffix_calls (h.keep hb) none 0 [] (by intro i x hx; simp at hx) (Nat.le_refl _) (by simp [maxLen]) (by simp)).mono ?_
  rintro e w' ⟨rfl, hb'⟩
  exact ⟨rfl, belowOn hb hb.size hb'⟩
theorem someR_sufs : suffixR someR [ck, ⟨#[121]⟩, ⟨#[120]⟩] = 2 ∧ suffixR someR [ck, www] = 1 ∧ suffixR someR [⟨#[100, 101]⟩, ⟨#[120]⟩] = 1 ∧ suffixR someR [] = 0 := by decide +kernel
theorem awake_calls (w : World) : Calls Try.prog 8 #[] w fun e w' => e = .returned (.bool true) ∧ Below w.heap.size w w' := by
  go_enter Try.func8, Try.ntmps8
  go_wp2_with (first
    | (go_at_call 17; refine (some_calls _).mono ?_; rintro e w1 ⟨⟨A, l, rfl, hl3, hlr, hrow, hok⟩, hb1⟩; have HN := Lib.hid (new_calls A 3 l w1 7 hrow hok (by omega) (by simp [maxLen])); rw [hlr, hl3] at HN; have HB1 := Lib.hid hb1; clear hrow hok hb1)
    | (go_at_call 11; refine HN.out.mono ?_; rintro e w2 ⟨⟨t, a, rfl, ht⟩, hb2⟩; have HT := Lib.hid ht; have HB2 := Lib.hid (belowOn HB1.out HB1.out.size hb2); clear ht hb2)
    | (go_at_call 14; refine (version_calls HT.out).mono ?_; rintro e w' ⟨rfl, rfl⟩)
    | (go_at_call_of 12 (Value.slice (some ⟨w2.heap.size, 0, none⟩) 3 3); refine (suf_fresh3 HT.out (Below.refl _ _) ⟨#[99, 107]⟩ ⟨#[121]⟩ ⟨#[120]⟩ 2 someR_sufs.1).mono ?_; rintro e w3 ⟨rfl, hb3⟩; have HB3 := Lib.hid hb3; clear hb3)
    | (go_at_call_of 12 (Value.slice (some ⟨w3.heap.size, 0, none⟩) 2 2); refine (suf_fresh2 HT.out HB3.out ⟨#[99, 107]⟩ ⟨#[119, 119, 119]⟩ 1 someR_sufs.2.1).mono ?_; rintro e w4 ⟨rfl, hb4⟩; have HB4 := Lib.hid hb4; clear hb4)
    | (go_at_call_of 12 (Value.slice (some ⟨w4.heap.size, 0, none⟩) 2 2); refine (suf_fresh2 HT.out HB4.out ⟨#[100, 101]⟩ ⟨#[120]⟩ 1 someR_sufs.2.2.1).mono ?_; rintro e w5 ⟨rfl, hb5⟩; have HB5 := Lib.hid hb5; clear hb5)
    | (go_at_call_of 12 (Value.slice none 0 0); refine (suf_empty HT.out HB5.out 0 someR_sufs.2.2.2).mono ?_; rintro e w6 ⟨rfl, hb6⟩; have HB6 := Lib.hid (belowOn HB2.out HB2.out.size hb6); clear hb6))
  go_ret
  exact ⟨rfl, HB6.out⟩
end Go.Proofs.Ytmckggnjcdpaiaa
