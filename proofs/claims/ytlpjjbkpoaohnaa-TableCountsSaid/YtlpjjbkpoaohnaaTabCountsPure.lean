/- A key that is interned so often and released so often, plain; how many free slots an act may cost. -/
import Derived.Test.YtlpjjbkpoaohnaaTabDo
set_option linter.unusedVariables false
set_option linter.unusedSimpArgs false
namespace Go.Proofs.Ytlpjjbkpoaohnaa
open Slots

theorem freed_left (s : St) (n : Int) : s.left ≤ (s.freed n).left := by
  unfold St.freed
  simp only []
  split
  · exact Int.le_refl _
  · show s.left ≤ s.left + 1; omega
theorem turn_left (s : St) (a : Int × Int) (d : Int) : s.left ≤ (s.turn a d).1.left := by
  unfold St.turn
  split
  · simp only []
    split
    · exact freed_left _ _
    · exact Int.le_refl _
  · exact Int.le_refl _
theorem take_left (s : St) : s.left - 1 ≤ s.take.1.left := by
  unfold St.take
  split
  · show s.left - 1 ≤ s.left; omega
  · exact Int.le_refl _
theorem act_left (t : Tb) (a : ActV) (ad : Nat) : t.s.left - 1 ≤ (t.act a ad).1.s.left := by
  unfold Tb.act
  split
  · unfold Tb.intern
    split
    · have := turn_left t.s (‹Ent›).h 1; show _ ≤ (t.s.turn _ 1).1.left; omega
    · split
      · show t.s.left - 1 ≤ t.s.left; omega
      · exact take_left t.s
  · split
    · unfold Tb.release
      split
      · have := turn_left t.s (handT a.hc a.hd) (-1)
        split <;> (show _ ≤ (t.s.turn _ (-1)).1.left; omega)
      · show t.s.left - 1 ≤ t.s.left; omega
    · show t.s.left - 1 ≤ t.s.left; omega
theorem intern_n (t : Tb) (k : ByteArray) (u : Array Value) (ad : Nat) : (t.intern k u ad).1.n = t.n := by
  unfold Tb.intern
  split
  · rfl
  · split <;> rfl
theorem release_n (t : Tb) (a : Int × Int) : (t.release a).1.n = t.n := by
  unfold Tb.release
  split
  · split <;> rfl
  · rfl
theorem act_n (t : Tb) (a : ActV) (ad : Nat) : (t.act a ad).1.n = t.n := by
  unfold Tb.act
  split
  · exact intern_n ..
  · split
    · exact release_n ..
    · rfl

/-- A key is there, with its URL, by a handle, counted c times. -/
structure Has (t : Tb) (k : ByteArray) (u : Array Value) (h : Int × Int) (c : Int) (ad : Nat) : Prop where
  look : t.look k = some ⟨k, u, h, ad⟩
  cell : ∃ (n : Nat) (d : Cell), h = ((n : Int), d.gen) ∧ t.s.sl[n]? = some d ∧ d.count = c
  pos : 1 ≤ c
section
variable {K : Int} {t : Tb} {x : Rf} {k : ByteArray} {u : Array Value} {h : Int × Int} {c : Int} {ad : Nat}
theorem Has.ok (hh : Has t k u h c ad) : t.s.ok h := by
  obtain ⟨n, d, rfl, hd, hc⟩ := hh.cell
  have hp := hh.pos
  have hl := (List.getElem?_eq_some_iff.1 hd).1
  have hget : t.s.get (n : Int) = d := by unfold St.get; rw [Int.toNat_natCast, hd]; rfl
  exact ⟨by show (0 : Int) ≤ n; omega, by show (n : Int) < _; omega, by show (t.s.get n).count ≠ 0; rw [hget]; omega, by show (t.s.get n).gen = d.gen; rw [hget]⟩
theorem Has.new (hok : t.Ok K x) (hf : t.look k = none) (h0 : t.s.left ≠ 0) (u : Array Value) (ad : Nat) : Has (t.intern k u ad).1 k u (t.intern k u ad).2.1 1 ad ∧ (t.intern k u ad).2.2 = none := by
  obtain ⟨n, d, hd, hd0, ht, _⟩ := ok_take hok.sim h0
  have hint : t.intern k u ad = ({ t with s := t.s.take.1, l := t.l ++ [⟨k, u, ((n : Int), d.gen), ad⟩] }, ((n : Int), d.gen), none) := by
    unfold Tb.intern; rw [hf]; simp only [if_neg h0]; rw [ht]; rfl
  rw [hint]
  refine ⟨⟨?_, ⟨n, ⟨d.gen, 1, d.next⟩, rfl, ?_, rfl⟩, by omega⟩, rfl⟩
  · have hno := look_none hf
    have h1 : t.l.find? (fun e => decide (e.k = k)) = none := hf
    show (t.l ++ [_]).find? (fun e : Ent => decide (e.k = k)) = _
    rw [List.find?_append, h1]
    simp
  · show t.s.take.1.sl[n]? = _
    have hn := (List.getElem?_eq_some_iff.1 hd).1
    have hh : t.s.take.2 = some (t.s.head, (t.s.get t.s.head).gen) := by unfold St.take; rw [if_neg h0]
    rw [hh] at ht
    have e1 : t.s.head = n := by injection ht with ht; injection ht
    have hget : t.s.get (n : Int) = d := by unfold St.get; rw [Int.toNat_natCast, hd]; rfl
    unfold St.take
    rw [if_neg h0]
    simp only [e1, hget, Int.toNat_natCast]
    rw [List.getElem?_set_self hn]
theorem Has.again (hok : t.Ok K x) (hh : Has t k u h c ad) (u' : Array Value) (ad' : Nat) : t.intern k u' ad' = ({ t with s := (t.s.turn h 1).1 }, h, none) ∧ Has { t with s := (t.s.turn h 1).1 } k u h (c + 1) ad := by
  refine ⟨by unfold Tb.intern; rw [hh.look], hh.look, ?_, by have := hh.pos; omega⟩
  obtain ⟨n, d, rfl, hd, hc⟩ := hh.cell
  have hp := hh.pos
  have hl := (List.getElem?_eq_some_iff.1 hd).1
  refine ⟨n, ⟨d.gen, d.count + 1, d.next⟩, rfl, ?_, by show d.count + 1 = c + 1; omega⟩
  show (t.s.turn ((n : Int), d.gen) 1).1.sl[n]? = _
  rw [turn_ok hd (by omega), if_neg (by omega)]
  exact List.getElem?_set_self hl
theorem Has.told (hok : t.Ok K x) (hh : Has t k u h c ad) : t.told h = some (⟨k, u, h, ad⟩, c) := by
  obtain ⟨e, h1, h2, h3, h4⟩ := told_some hok hh.ok
  rw [h4]
  obtain ⟨he, _⟩ := look_some hh.look
  have : e = ⟨k, u, h, ad⟩ := nodup_same hok.sn e h1 _ he (by rw [h2])
  rw [this]
  obtain ⟨n, d, rfl, hd, hc⟩ := hh.cell
  have hp := hh.pos
  rw [turn_ok hd (by omega)]
  simp [hc]
theorem Has.less (hok : t.Ok K x) (hh : Has t k u h c ad) (h2 : 2 ≤ c) : (t.release h).2 = none ∧ Has (t.release h).1 k u h (c - 1) ad := by
  have hk := hh.ok
  obtain ⟨n, d, rfl, hd, hc⟩ := hh.cell
  have hl := (List.getElem?_eq_some_iff.1 hd).1
  have htn : t.s.turn ((n : Int), d.gen) (-1) = ({ t.s with sl := t.s.sl.set n ⟨d.gen, d.count + -1, d.next⟩ }, some (d.count + -1)) := by rw [turn_ok hd (by omega), if_neg (by omega)]
  have hrel : t.release ((n : Int), d.gen) = ({ t with s := (t.s.turn ((n : Int), d.gen) (-1)).1 }, none) := by
    unfold Tb.release
    rw [if_pos hk, htn]
    simp only [Option.getD_some]
    rw [if_neg (by omega)]
  rw [hrel, htn]
  exact ⟨rfl, hh.look, ⟨n, ⟨d.gen, d.count + -1, d.next⟩, rfl, List.getElem?_set_self hl, by show d.count + -1 = c - 1; omega⟩, by omega⟩
theorem Has.last (hok : t.Ok K x) (hh : Has t k u h 1 ad) : (t.release h).2 = none ∧ (t.release h).1.look k = none ∧ ¬ (t.release h).1.s.ok h := by
  have hk := hh.ok
  have hd := ok_drop hok.sim hk
  have hz : (t.s.turn h (-1)).2.getD 0 = 0 := by
    obtain ⟨n, d, rfl, hd, hc⟩ := hh.cell
    rw [turn_ok hd (by omega)]
    simp only [Option.getD_some]
    omega
  have hrel : t.release h = ({ t with s := (t.s.turn h (-1)).1, l := t.l.filter fun e => decide (e.h.1 ≠ h.1) }, none) := by unfold Tb.release; rw [if_pos hk, if_pos hz]
  rw [hrel]
  refine ⟨rfl, ?_, fun e => ((hd h).1 e).2 hz rfl⟩
  refine List.find?_eq_none.2 fun e he => ?_
  obtain ⟨he, hne⟩ := List.mem_filter.1 he
  obtain ⟨he0, _⟩ := look_some hh.look
  simp only [decide_eq_true_eq] at hne ⊢
  intro ek
  have : e = ⟨k, u, h, ad⟩ := nodup_same hok.kn e he _ he0 ek
  exact hne (by rw [this])
end
end Go.Proofs.Ytlpjjbkpoaohnaa
