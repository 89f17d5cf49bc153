/- The stage's theorem, plain: a handle that was taken is counted as often as it was added, less what it was dropped; once it is down to nothing it is never live again. -/
import Derived.Test.YtkmmnmicmjohgaaDoorSlotsAct
set_option linter.unusedVariables false
set_option linter.unusedSimpArgs false
namespace Go.Proofs.YtkmmnmicmjohgaaDoor
namespace Slots

/-- What holds of a handle that was taken: it is live, and counted k times; or k is 0, and its slot has another generation. -/
structure Held (s : St) (n : Nat) (gen k : Int) : Prop where
  low : 1 ≤ gen
  is_ : ∃ c, s.sl[n]? = some c ∧ ((c.gen = gen ∧ c.count = k ∧ 0 < k) ∨ (k = 0 ∧ (c.gen = 0 ∨ gen < c.gen)))

theorem Held.ok {s : St} {n : Nat} {gen k : Int} (h : Held s n gen k) : s.ok ((n : Int), gen) ↔ 0 < k := by
  obtain ⟨c, hc, hh⟩ := h.is_
  have hlow := h.low
  have hlen : n < s.sl.length := (List.getElem?_eq_some_iff.1 hc).1
  have hget : s.get n = c := by unfold St.get; rw [Int.toNat_natCast, hc]; rfl
  unfold St.ok
  simp only [hget]
  rcases hh with ⟨h1, h2, h3⟩ | ⟨h1, h2⟩
  · exact ⟨fun _ => h3, fun _ => ⟨by omega, by omega, by omega, h1⟩⟩
  · refine ⟨fun h => ?_, fun h => by omega⟩
    rcases h2 with h2 | h2 <;> omega
/-- Count tells k, and whether it is live. -/
theorem Held.count {s : St} {n : Nat} {gen k : Int} (h : Held s n gen k) : (s.turn ((n : Int), gen) 0).2.getD 0 = k ∧ st s ((n : Int), gen) = (if 0 < k then none else some 7) := by
  obtain ⟨c, hc, hh⟩ := h.is_
  have hok := h.ok
  refine ⟨?_, ?_⟩
  · rcases hh with ⟨h1, h2, h3⟩ | ⟨h1, h2⟩
    · subst h1
      rw [turn_ok hc (by omega)]
      simp [h2]
    · have : ¬ s.ok ((n : Int), gen) := fun e => by have := hok.1 e; omega
      rw [turn_bad this]
      simp [h1]
  · unfold st
    by_cases hk : 0 < k
    · rw [if_pos hk, if_pos (hok.2 hk)]
    · rw [if_neg hk, if_neg (fun e => hk (hok.1 e))]
theorem freed_at (s : St) (n : Nat) (c : Cell) (hc : s.sl[n]? = some c) : ∃ d, (s.freed n).sl[n]? = some d ∧ (d.gen = 0 ∨ d.gen = c.gen + 1) ∧ d.count = c.count := by
  have hget : s.get n = c := by unfold St.get; rw [Int.toNat_natCast, hc]; rfl
  have hl : n < s.sl.length := (List.getElem?_eq_some_iff.1 hc).1
  unfold St.freed
  simp only [hget, Int.toNat_natCast]
  split
  · exact ⟨_, List.getElem?_set_self hl, .inl rfl, rfl⟩
  · exact ⟨_, List.getElem?_set_self hl, .inr rfl, rfl⟩
theorem freed_else (s : St) (m n : Nat) (hne : m ≠ n) : (s.freed m).sl[n]? = s.sl[n]? := by
  unfold St.freed
  simp only [Int.toNat_natCast]
  split
  · exact List.getElem?_set_ne hne
  · exact List.getElem?_set_ne hne
/-- A turn of any handle. -/
theorem Held.turn {s : St} {x : Rf} (hs : Sim s x) {n : Nat} {gen k : Int} (h : Held s n gen k) (a : Int × Int) (d : Int) (hd : d = 1 ∨ d = -1 ∨ d = 0) : Held (s.turn a d).1 n gen (k + if a = ((n : Int), gen) ∧ s.ok a then d else 0) := by
  by_cases hok : s.ok a
  · obtain ⟨m, c', rfl, hc', hn0⟩ := ok_cell hok
    have hpos : 0 < c'.count := by have := (hs.count m c' hc').2; omega
    have hgen : 1 ≤ c'.gen := by rcases hs.gen m c' hc' with ⟨a, _⟩ | ⟨_, b, _⟩; exact a; omega
    have hml : m < s.sl.length := (List.getElem?_eq_some_iff.1 hc').1
    rw [turn_ok hc' hn0]
    obtain ⟨c, hc, hh⟩ := h.is_
    by_cases hmn : m = n
    · subst hmn
      obtain rfl : c' = c := by rw [hc'] at hc; injection hc
      by_cases hg : c'.gen = gen
      · subst hg
        rw [if_pos (show ((m : Int), c'.gen) = ((m : Int), c'.gen) ∧ s.ok ((m : Int), c'.gen) from ⟨rfl, hok⟩)]
        have hk : c'.count = k ∧ 0 < k := by
          rcases hh with ⟨_, h2, h3⟩ | ⟨h1, h2⟩
          · exact ⟨h2, h3⟩
          · rcases h2 with h2 | h2 <;> omega
        by_cases hz : c'.count + d = 0
        · rw [if_pos hz]
          obtain ⟨e, he, hg, _⟩ := freed_at { s with sl := s.sl.set m ⟨c'.gen, c'.count + d, c'.next⟩ } m ⟨c'.gen, c'.count + d, c'.next⟩ (List.getElem?_set_self hml)
          refine ⟨h.low, e, he, .inr ⟨by omega, ?_⟩⟩
          rcases hg with hg | hg
          · exact .inl hg
          · simp only at hg; exact .inr (by omega)
        · rw [if_neg hz]
          exact ⟨h.low, _, List.getElem?_set_self hml, .inl ⟨rfl, by show c'.count + d = k + d; omega, by omega⟩⟩
      · have hno : ¬ (((m : Int), c'.gen) = ((m : Int), gen) ∧ s.ok ((m : Int), c'.gen)) := by rintro ⟨e, _⟩; injection e with _ e; exact hg e
        rw [if_neg hno, Int.add_zero]
        have hk : k = 0 ∧ gen < c'.gen := by
          rcases hh with ⟨h1, _⟩ | ⟨h1, h2⟩
          · exact absurd h1 hg
          · exact ⟨h1, by rcases h2 with h2 | h2 <;> omega⟩
        by_cases hz : c'.count + d = 0
        · rw [if_pos hz]
          obtain ⟨e, he, hge, _⟩ := freed_at { s with sl := s.sl.set m ⟨c'.gen, c'.count + d, c'.next⟩ } m ⟨c'.gen, c'.count + d, c'.next⟩ (List.getElem?_set_self hml)
          refine ⟨h.low, e, he, .inr ⟨hk.1, ?_⟩⟩
          rcases hge with hge | hge
          · exact .inl hge
          · simp only at hge; exact .inr (by omega)
        · rw [if_neg hz]
          exact ⟨h.low, _, List.getElem?_set_self hml, .inr ⟨hk.1, .inr hk.2⟩⟩
    · have hno : ¬ (((m : Int), c'.gen) = ((n : Int), gen) ∧ s.ok ((m : Int), c'.gen)) := by rintro ⟨e, _⟩; injection e with e _; exact hmn (by omega)
      rw [if_neg hno, Int.add_zero]
      refine ⟨h.low, c, ?_, hh⟩
      split
      · rw [freed_else _ m n hmn]
        show (s.sl.set m _)[n]? = _
        rw [List.getElem?_set_ne hmn]; exact hc
      · show (s.sl.set m _)[n]? = _
        rw [List.getElem?_set_ne hmn]; exact hc
  · rw [turn_bad hok, if_neg (fun e => hok e.2), Int.add_zero]
    exact h
/-- An act. -/
theorem Held.act {s : St} {x : Rf} (hs : Sim s x) {n : Nat} {gen k : Int} (h : Held s n gen k) (kd : Int) (a : Int × Int) :
    Held (s.act kd a).1 n gen (k + if (s.act kd a).2.2.2 = none ∧ a = ((n : Int), gen) then (if kd = 1 then 1 else if kd = 2 then -1 else 0) else 0) ∧
    (kd = 0 → (s.act kd a).2.2.2 = none → (s.act kd a).2.1 ≠ ((n : Int), gen)) := by
  have hst : ∀ b, (st s b = none) ↔ s.ok b := fun b => by unfold st; by_cases hb : s.ok b <;> simp [hb]
  unfold St.act
  by_cases h0 : kd = 0
  · subst h0
    rw [if_pos rfl]
    simp only [Int.reduceEq, if_false, ite_self, Int.add_zero]
    obtain ⟨c, hc, hh⟩ := h.is_
    have hnl : n < s.sl.length := (List.getElem?_eq_some_iff.1 hc).1
    by_cases hl : s.left = 0
    · rw [if_pos hl]
      refine ⟨?_, fun _ e => by cases e⟩
      unfold St.take
      rw [if_pos hl]
      exact h
    · rw [if_neg hl]
      have hf : x.free ≠ [] := fun e => hl (by rw [hs.left, e]; rfl)
      obtain ⟨m, rest, hx⟩ : ∃ m rest, x.free = m :: rest := by
        cases hx : x.free with
        | nil => exact absurd hx hf
        | cons m rest => exact ⟨m, rest, rfl⟩
      have hch := hs.chain
      rw [hx] at hch
      obtain ⟨hhd, c0, hc0, hcz, _⟩ := hch
      have hr := hs.range m (by rw [hx]; exact List.mem_cons_self ..)
      have hget : s.get s.head = c0 := by unfold St.get; rw [hhd, hc0]; rfl
      have ht : s.take = ({ s with sl := s.sl.set s.head.toNat ⟨c0.gen, 1, c0.next⟩, head := c0.next, left := s.left - 1, live := s.live + 1 }, some (s.head, c0.gen)) := by
        unfold St.take; rw [if_neg hl]; simp only [hget]
      rw [ht]
      have hne : m.toNat = n → k = 0 ∧ gen ≠ c0.gen ∧ (c0.gen = 0 ∨ gen < c0.gen) := by
        intro e
        rw [e] at hc0
        obtain rfl : c = c0 := by rw [hc] at hc0; injection hc0
        have hlow := h.low
        rcases hh with ⟨h1, h2, h3⟩ | ⟨h1, h2⟩
        · omega
        · exact ⟨h1, by rcases h2 with h2 | h2 <;> omega, h2⟩
      refine ⟨?_, fun _ _ e => ?_⟩
      · by_cases e : m.toNat = n
        · obtain ⟨hk, _, hg⟩ := hne e
          refine ⟨h.low, ⟨c0.gen, 1, c0.next⟩, ?_, .inr ⟨hk, hg⟩⟩
          show (s.sl.set s.head.toNat _)[n]? = _
          rw [hhd, e, List.getElem?_set_self hnl]
        · refine ⟨h.low, c, ?_, hh⟩
          show (s.sl.set s.head.toNat _)[n]? = _
          rw [hhd, List.getElem?_set_ne e]; exact hc
      · injection e with e1 e2
        obtain ⟨_, hg, _⟩ := hne (by omega)
        exact hg e2.symm
  · rw [if_neg h0]
    refine ⟨?_, fun e => absurd e h0⟩
    by_cases h1 : kd = 1
    · subst h1
      rw [if_pos rfl]
      have := h.turn hs a 1 (.inl rfl)
      simpa [hst, and_comm] using this
    · rw [if_neg h1]
      by_cases h2 : kd = 2
      · subst h2
        rw [if_pos rfl]
        have := h.turn hs a (-1) (.inr (.inl rfl))
        simpa [hst, and_comm] using this
      · rw [if_neg h2]
        have := h.turn hs a 0 (.inr (.inr rfl))
        simpa [h1, h2] using this
/-- A handle that was just taken. -/
theorem held_take {s : St} {x : Rf} (hs : Sim s x) (hl : s.left ≠ 0) : ∃ (n : Nat) (gen : Int), s.take.2 = some ((n : Int), gen) ∧ Held s.take.1 n gen 1 := by
  have hf : x.free ≠ [] := fun e => hl (by rw [hs.left, e]; rfl)
  obtain ⟨m, rest, hx⟩ : ∃ m rest, x.free = m :: rest := by
    cases hx : x.free with
    | nil => exact absurd hx hf
    | cons m rest => exact ⟨m, rest, rfl⟩
  have hch := hs.chain
  rw [hx] at hch
  obtain ⟨hhd, c0, hc0, hcz, _⟩ := hch
  have hr := hs.range m (by rw [hx]; exact List.mem_cons_self ..)
  have hget : s.get s.head = c0 := by unfold St.get; rw [hhd, hc0]; rfl
  have ht : s.take = ({ s with sl := s.sl.set s.head.toNat ⟨c0.gen, 1, c0.next⟩, head := c0.next, left := s.left - 1, live := s.live + 1 }, some (s.head, c0.gen)) := by
    unfold St.take; rw [if_neg hl]; simp only [hget]
  have hg : 1 ≤ c0.gen := by
    rcases hs.gen m.toNat c0 hc0 with ⟨a, _⟩ | ⟨_, _, _, d⟩
    · exact a
    · exact absurd (by rw [hx, Int.toNat_of_nonneg hr.1]; exact List.mem_cons_self ..) d
  refine ⟨m.toNat, c0.gen, ?_, hg, ⟨c0.gen, 1, c0.next⟩, ?_, .inl ⟨rfl, rfl, by omega⟩⟩
  · rw [ht, hhd, Int.toNat_of_nonneg hr.1]
  · rw [ht]
    show (s.sl.set s.head.toNat _)[m.toNat]? = _
    rw [hhd, List.getElem?_set_self (by omega)]
end Slots
end Go.Proofs.YtkmmnmicmjohgaaDoor
