/- Acts on slots, plain: both states tell the same, and stay in bounds. -/
import Derived.Test.YtlpjjbkpoaohnaaDoorSlotsApi
set_option linter.unusedVariables false
set_option linter.unusedSimpArgs false
namespace Go.Proofs.YtlpjjbkpoaohnaaDoor
namespace Slots

/-- An act: its kind (0 to 3), its handle: the state behind it, the handle, the number, the error. -/
def St.act (s : St) (kd : Int) (h : Int × Int) : St × (Int × Int) × Int × Option Int :=
  if kd = 0 then (s.take.1, s.take.2.getD (0, 0), 0, if s.left = 0 then some 8 else none)
  else if kd = 1 then ((s.turn h 1).1, (0, 0), 0, st s h)
  else if kd = 2 then ((s.turn h (-1)).1, (0, 0), (s.turn h (-1)).2.getD 0, st s h)
  else ((s.turn h 0).1, (0, 0), (s.turn h 0).2.getD 0, st s h)
def Rf.act (x : Rf) (kd : Int) (h : Int × Int) : Rf × (Int × Int) × Int × Int :=
  if kd = 0 then (x.take.1, x.take.2.getD (0, 0), 0, if x.free = [] then 8 else 0)
  else if kd = 1 then ((x.add h).1, (0, 0), 0, if x.live h then 0 else 7)
  else if kd = 2 then ((x.drop h).1, (0, 0), (x.drop h).2.getD 0, if x.live h then 0 else 7)
  else (x, (0, 0), if x.live h then x.count h.1 else 0, if x.live h then 0 else 7)
theorem st_code {s : St} {x : Rf} (h : Sim s x) (a : Int × Int) : (st s a).getD 0 = if x.live a then 0 else 7 := by
  unfold st
  by_cases hv : x.live a
  · rw [if_pos hv, if_pos ((h.ok_iff a).2 hv)]; rfl
  · rw [if_neg hv, if_neg (fun e => hv ((h.ok_iff a).1 e))]; rfl
theorem sim_act {s : St} {x : Rf} (h : Sim s x) (kd : Int) (a : Int × Int) : (s.act kd a).2.1 = (x.act kd a).2.1 ∧ (s.act kd a).2.2.1 = (x.act kd a).2.2.1 ∧ (s.act kd a).2.2.2.getD 0 = (x.act kd a).2.2.2 ∧ Sim (s.act kd a).1 (x.act kd a).1 := by
  unfold St.act Rf.act
  by_cases h0 : kd = 0
  · rw [if_pos h0, if_pos h0]
    obtain ⟨h1, h2⟩ := sim_take h
    refine ⟨by rw [h1], rfl, ?_, h2⟩
    show Option.getD (if s.left = 0 then some 8 else none) 0 = if x.free = [] then 8 else 0
    have hl := h.left
    by_cases hf : x.free = []
    · rw [if_pos hf, if_pos (by rw [hl, hf]; rfl)]; rfl
    · have : 0 < x.free.length := List.length_pos_iff.2 hf
      rw [if_neg hf, if_neg (by omega)]; rfl
  rw [if_neg h0, if_neg h0]
  by_cases h1 : kd = 1
  · rw [if_pos h1, if_pos h1]
    exact ⟨rfl, rfl, st_code h a, (sim_add h a).2⟩
  rw [if_neg h1, if_neg h1]
  by_cases h2 : kd = 2
  · rw [if_pos h2, if_pos h2]
    obtain ⟨h3, h4⟩ := sim_drop h a
    exact ⟨rfl, by rw [h3], st_code h a, h4⟩
  rw [if_neg h2, if_neg h2]
  rw [sim_count h a]
  refine ⟨rfl, ?_, st_code h a, h⟩
  by_cases hv : x.live a
  · rw [if_pos hv, if_pos hv]; rfl
  · rw [if_neg hv, if_neg hv]; rfl

/-- No count is above K. -/
def Small (K : Int) (s : St) : Prop := ∀ (i : Nat) (c : Cell), s.sl[i]? = some c → c.count ≤ K
theorem Small.set_ {K : Int} {s : St} (h : Small K s) {i : Nat} {c : Cell} (hc : c.count ≤ K) : ∀ (j : Nat) (d : Cell), (s.sl.set i c)[j]? = some d → d.count ≤ K := by
  intro j d hd
  by_cases e : i = j
  · subst e
    by_cases hl : i < s.sl.length
    · rw [List.getElem?_set_self hl] at hd
      injection hd with hd
      subst hd
      exact hc
    · rw [List.getElem?_eq_none (by simp; omega)] at hd
      cases hd
  · rw [List.getElem?_set_ne e] at hd
    exact h j d hd
theorem Small.mono {K L : Int} {s : St} (h : Small K s) (hl : K ≤ L) : Small L s := fun i c hc => Int.le_trans (h i c hc) hl
theorem Small.get {K : Int} {s : St} (h : Small K s) (hK : 0 ≤ K) (i : Int) : (s.get i).count ≤ K := by
  unfold St.get
  cases hc : s.sl[i.toNat]? with
  | none => exact hK
  | some c => exact h _ c hc
theorem freed_small {K : Int} {s : St} (h : Small K s) (hK : 0 ≤ K) (n : Int) : Small K (s.freed n) := by
  unfold St.freed
  have hg := h.get hK n
  simp only []
  split
  · exact h.set_ hg
  · exact h.set_ hg
theorem turn_small {K : Int} {s : St} (h : Small K s) (hK : 0 ≤ K) (a : Int × Int) (d : Int) (hd : d ≤ 1) : Small (K + 1) (s.turn a d).1 := by
  unfold St.turn
  have hg := h.get hK a.1
  split
  · have h1 : Small (K + 1) { s with sl := s.sl.set a.1.toNat ⟨(s.get a.1).gen, (s.get a.1).count + d, (s.get a.1).next⟩ } := (h.mono (show K ≤ K + 1 by omega)).set_ (by show (s.get a.1).count + d ≤ K + 1; omega)
    simp only []
    split
    · exact freed_small h1 (by omega) _
    · exact h1
  · exact h.mono (by omega)
theorem act_small {K : Int} {s : St} (h : Small K s) (hK : 0 ≤ K) (kd : Int) (a : Int × Int) : Small (K + 1) (s.act kd a).1 := by
  unfold St.act
  split
  · unfold St.take
    split
    · exact h.mono (by omega)
    · exact (h.mono (show K ≤ K + 1 by omega)).set_ (by show (1 : Int) ≤ K + 1; omega)
  · split
    · exact turn_small h hK a 1 (by omega)
    · split
      · exact turn_small h hK a (-1) (by omega)
      · exact turn_small h hK a 0 (by omega)
theorem freed_len (s : St) (n : Int) : (s.freed n).sl.length = s.sl.length ∧ (s.freed n).last = s.last := by
  unfold St.freed
  simp only []
  split <;> exact ⟨by simp, rfl⟩
theorem turn_len (s : St) (a : Int × Int) (d : Int) : (s.turn a d).1.sl.length = s.sl.length ∧ (s.turn a d).1.last = s.last := by
  unfold St.turn
  split
  · simp only []
    split
    · have := freed_len { s with sl := s.sl.set a.1.toNat ⟨(s.get a.1).gen, (s.get a.1).count + d, (s.get a.1).next⟩ } a.1
      simpa using this
    · exact ⟨by simp, rfl⟩
  · exact ⟨rfl, rfl⟩
theorem act_len (s : St) (kd : Int) (a : Int × Int) : (s.act kd a).1.sl.length = s.sl.length ∧ (s.act kd a).1.last = s.last := by
  unfold St.act
  split
  · unfold St.take
    split
    · exact ⟨rfl, rfl⟩
    · exact ⟨by simp, rfl⟩
  · split
    · exact turn_len s a 1
    · split
      · exact turn_len s a (-1)
      · exact turn_len s a 0

theorem nodup_sub {α : Type} [DecidableEq α] : ∀ {l m : List α}, l.Nodup → (∀ a ∈ l, a ∈ m) → l.length ≤ m.length
  | [], m, _, _ => Nat.zero_le _
  | a :: l, m, hn, hs => by
    obtain ⟨h1, h2⟩ := List.nodup_cons.1 hn
    have ha : a ∈ m := hs a (List.mem_cons_self ..)
    have hsub : ∀ b ∈ l, b ∈ m.erase a := fun b hb => (List.mem_erase_of_ne (fun e : b = a => h1 (by rw [← e]; exact hb))).2 (hs b (List.mem_cons_of_mem _ hb))
    have ih := nodup_sub h2 hsub
    rw [List.length_erase_of_mem ha] at ih
    have : 0 < m.length := List.length_pos_of_mem ha
    simp only [List.length_cons]
    omega
/-- A list of different numbers below n has no more than n. -/
theorem nodup_le {l : List Int} {n : Nat} (hn : l.Nodup) (h : ∀ a ∈ l, 0 ≤ a ∧ a < n) : l.length ≤ n := by
  have h1 : (l.map Int.toNat).Nodup := List.pairwise_map.2 (hn.imp_of_mem fun {a b} ha hb hne e => hne (by have := h a ha; have := h b hb; omega))
  have h2 : ∀ a ∈ l.map Int.toNat, a ∈ List.range n := fun a ha => by
    obtain ⟨b, hb, rfl⟩ := List.mem_map.1 ha
    have := h b hb
    exact List.mem_range.2 (by omega)
  have := nodup_sub h1 h2
  simpa using this
theorem Sim.fine {s : St} {x : Rf} (h : Sim s x) {K : Int} (hs : Small K s) (hK : K ≤ 999999) (hl : s.sl.length ≤ 5000) (hlast : s.last ≤ 999999) : Fine s := by
  have hfree : x.free.length ≤ s.sl.length := nodup_le h.nodup h.range
  have hmany : x.many ≤ s.sl.length := by
    have := List.length_filter_le (fun a : Int => decide (0 < a)) x.counts
    unfold Rf.many
    have := h.lc
    omega
  refine ⟨fun i c hc => ?_, ?_, ?_, fun h0 => ?_⟩
  · have h1 := h.count i c hc
    have h2 := hs i c hc
    rcases h.gen i c hc with ⟨a, b, _⟩ | ⟨a, _⟩
    · exact ⟨⟨h1.2, by omega⟩, by omega, by omega⟩
    · exact ⟨⟨h1.2, by omega⟩, by omega, by omega⟩
  · have := h.left; omega
  · have := h.live; omega
  · have hf : x.free ≠ [] := fun e => h0 (by rw [h.left, e]; rfl)
    cases hx : x.free with
    | nil => exact absurd hx hf
    | cons n l =>
      have hc := h.chain
      rw [hx] at hc
      have hr := h.range n (by rw [hx]; exact List.mem_cons_self ..)
      exact ⟨n.toNat, by rw [hc.1]; omega, by omega⟩
theorem Sim.count_bound {s : St} {x : Rf} (h : Sim s x) {K : Int} (hs : Small K s) (hK : 0 ≤ K) (i : Int) : 0 ≤ x.count i ∧ x.count i ≤ K := by
  unfold Rf.count
  cases hc : x.counts[i.toNat]? with
  | none => exact ⟨Int.le_refl _, hK⟩
  | some v =>
    have hl : i.toNat < s.sl.length := by have := (List.getElem?_eq_some_iff.1 hc).1; have := h.lc; omega
    obtain ⟨c, hcc⟩ : ∃ c, s.sl[i.toNat]? = some c := ⟨_, List.getElem?_eq_getElem hl⟩
    obtain ⟨h1, h2⟩ := h.count _ c hcc
    rw [hc] at h1
    injection h1 with h1
    subst h1
    exact ⟨h2, hs _ c hcc⟩
theorem small_new (many : Nat) (last : Int) : Small 0 (newSt many last) := by
  intro i c hc
  simp only [newSt, List.getElem?_map] at hc
  obtain ⟨j, hj, rfl⟩ := Option.map_eq_some_iff.1 hc
  exact Int.le_refl _
end Slots
end Go.Proofs.YtlpjjbkpoaohnaaDoor
