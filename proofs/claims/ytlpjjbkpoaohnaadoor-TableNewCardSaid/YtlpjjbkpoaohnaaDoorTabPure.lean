/- The table, plain: entries by keys and by slots; what Intern and Release make of it. -/
import Derived.Test.YtlpjjbkpoaohnaaDoorSlotsAct
import Derived.Test.YtlpjjbkpoaohnaaDoorStripe
set_option linter.unusedVariables false
set_option linter.unusedSimpArgs false
namespace Go.Proofs.YtlpjjbkpoaohnaaDoor
open Slots

/-- An entry: its key, its URL's cells, its handle, and the block where it lies. -/
structure Ent where
  k : ByteArray
  u : Array Value
  h : Int × Int
  a : Nat
structure Tb where
  s : St
  l : List Ent
  n : Nat
def ptr (a : Nat) : Value := .pointer (some ⟨a, 0, none⟩)
def Ent.byK (e : Ent) : Int × Value := (e.h.1, ptr e.a)
def Ent.inK (e : Ent) : ByteArray × Value := (e.k, ptr e.a)
def Tb.look (t : Tb) (k : ByteArray) : Option Ent := t.l.find? fun e => decide (e.k = k)
def Tb.slot (t : Tb) (i : Int) : Option Ent := t.l.find? fun e => decide (e.h.1 = i)
def Tb.intern (t : Tb) (k : ByteArray) (u : Array Value) (a : Nat) : Tb × (Int × Int) × Option Int :=
  match t.look k with
  | some e => ({ t with s := (t.s.turn e.h 1).1 }, e.h, none)
  | none => if t.s.left = 0 then (t, (0, 0), some 8) else
    ({ t with s := t.s.take.1, l := t.l ++ [⟨k, u, t.s.take.2.getD (0, 0), a⟩] }, t.s.take.2.getD (0, 0), none)
def Tb.release (t : Tb) (h : Int × Int) : Tb × Option Int :=
  if t.s.ok h then
    if (t.s.turn h (-1)).2.getD 0 = 0 then ({ t with s := (t.s.turn h (-1)).1, l := t.l.filter fun e => decide (e.h.1 ≠ h.1) }, none)
    else ({ t with s := (t.s.turn h (-1)).1 }, none)
  else (t, some 7)
def Tb.internR (t : Tb) (x : Rf) (k : ByteArray) : Rf :=
  match t.look k with
  | some e => (x.add e.h).1
  | none => x.take.1
structure Tb.Ok (K : Int) (t : Tb) (x : Rf) : Prop where
  sim : Sim t.s x
  small : Small K t.s
  len : t.s.sl.length ≤ 4096
  last : t.s.last ≤ 999999
  live : ∀ a, t.s.ok a ↔ ∃ e ∈ t.l, e.h = a
  kn : (t.l.map (·.k)).Nodup
  sn : (t.l.map (·.h.1)).Nodup
  ks : ∀ e ∈ t.l, e.k.size ≤ 1000000
  n1 : 1 ≤ t.n
  n2 : t.n ≤ 64

theorem look_some {t : Tb} {k : ByteArray} {e : Ent} (h : t.look k = some e) : e ∈ t.l ∧ e.k = k :=
  ⟨List.mem_of_find?_eq_some h, by simpa using List.find?_some h⟩
theorem slot_some {t : Tb} {i : Int} {e : Ent} (h : t.slot i = some e) : e ∈ t.l ∧ e.h.1 = i :=
  ⟨List.mem_of_find?_eq_some h, by simpa using List.find?_some h⟩
theorem look_none {t : Tb} {k : ByteArray} (h : t.look k = none) : ∀ e ∈ t.l, e.k ≠ k := fun e he => by simpa using List.find?_eq_none.1 h e he
theorem slot_none {t : Tb} {i : Int} (h : t.slot i = none) : ∀ e ∈ t.l, e.h.1 ≠ i := fun e he => by simpa using List.find?_eq_none.1 h e he
theorem nodup_same {α β : Type} {f : α → β} : ∀ {l : List α}, (l.map f).Nodup → ∀ a ∈ l, ∀ b ∈ l, f a = f b → a = b
  | [], _, a, ha, _, _, _ => by cases ha
  | x :: l, h, a, ha, b, hb, e => by
    simp only [List.map_cons, List.nodup_cons] at h
    rcases List.mem_cons.1 ha with ha1 | ha1
    · rcases List.mem_cons.1 hb with hb1 | hb1
      · rw [ha1, hb1]
      · exact (h.1 (List.mem_map.2 ⟨b, hb1, by rw [← e, ha1]⟩)).elim
    · rcases List.mem_cons.1 hb with hb1 | hb1
      · exact (h.1 (List.mem_map.2 ⟨a, ha1, by rw [e, hb1]⟩)).elim
      · exact nodup_same h.2 a ha1 b hb1 e
theorem ok_set {s t : St} {n : Nat} (hn : n < s.sl.length) (c : Cell) (ht : t.sl = s.sl.set n c) (a : Int × Int) : t.ok a ↔ if a.1 = (n : Int) then (c.count ≠ 0 ∧ c.gen = a.2) else s.ok a := by
  unfold St.ok St.get
  rw [ht, List.length_set]
  by_cases h : a.1 = (n : Int)
  · rw [if_pos h, h, Int.toNat_natCast, List.getElem?_set_self hn]
    simp only [Option.getD_some]
    exact ⟨fun h => ⟨h.2.2.1, h.2.2.2⟩, fun h => ⟨by omega, by omega, h.1, h.2⟩⟩
  · rw [if_neg h]
    constructor
    · rintro ⟨h0, h1, h2, h3⟩
      have hne : n ≠ a.1.toNat := by omega
      rw [List.getElem?_set_ne hne] at h2 h3
      exact ⟨h0, h1, h2, h3⟩
    · rintro ⟨h0, h1, h2, h3⟩
      have hne : n ≠ a.1.toNat := by omega
      rw [← List.getElem?_set_ne (l := s.sl) (a := c) hne] at h2 h3
      exact ⟨h0, h1, h2, h3⟩
theorem ok_add {s : St} {x : Rf} (h : Sim s x) {a : Int × Int} (ha : s.ok a) (b : Int × Int) : (s.turn a 1).1.ok b ↔ s.ok b := by
  obtain ⟨n, c, rfl, hc, h0⟩ := ok_cell ha
  have hcc := (h.count n c hc).2
  have hn := (List.getElem?_eq_some_iff.1 hc).1
  rw [turn_ok hc h0, if_neg (by omega), ok_set hn ⟨c.gen, c.count + 1, c.next⟩ rfl]
  by_cases e : b.1 = (n : Int)
  · rw [if_pos e]
    simp only [St.ok, St.get, e, Int.toNat_natCast, hc, Option.getD_some]
    exact ⟨fun h => ⟨by omega, by omega, h0, h.2⟩, fun h => ⟨by omega, h.2.2.2⟩⟩
  · rw [if_neg e]
theorem ok_take {s : St} {x : Rf} (h : Sim s x) (h0 : s.left ≠ 0) : ∃ (n : Nat) (c : Cell), s.sl[n]? = some c ∧ c.count = 0 ∧ s.take.2 = some ((n : Int), c.gen) ∧ ∀ b, s.take.1.ok b ↔ (s.ok b ∨ b = ((n : Int), c.gen)) := by
  have hf : x.free ≠ [] := fun e => h0 (by rw [h.left, e]; rfl)
  cases hx : x.free with
  | nil => exact absurd hx hf
  | cons m l =>
    have hch := h.chain
    rw [hx] at hch
    obtain ⟨hd, c, hc, hc0, _⟩ := hch
    have hr := h.range m (by rw [hx]; exact List.mem_cons_self ..)
    obtain ⟨n, rfl⟩ := Int.eq_ofNat_of_zero_le hr.1
    rw [Int.toNat_natCast] at hc
    have hn := (List.getElem?_eq_some_iff.1 hc).1
    have hget : s.get (n : Int) = c := by unfold St.get; rw [Int.toNat_natCast, hc]; rfl
    refine ⟨n, c, hc, hc0, by unfold St.take; rw [if_neg h0, hd]; simp only [hget], fun b => ?_⟩
    have ht : s.take.1.sl = s.sl.set n ⟨c.gen, 1, c.next⟩ := by unfold St.take; rw [if_neg h0, hd]; simp only [hget, Int.toNat_natCast]
    rw [ok_set hn _ ht]
    obtain ⟨b1, b2⟩ := b
    by_cases e : b1 = (n : Int)
    · subst e
      rw [if_pos rfl]
      have hno : ¬ s.ok ((n : Int), b2) := fun hk => by
        have := hk.2.2.1
        simp only [hget] at this
        exact this hc0
      constructor
      · rintro ⟨_, h2⟩
        exact .inr (by simp only at h2; rw [h2])
      · rintro (h2 | h2)
        · exact absurd h2 hno
        · injection h2 with _ h2
          exact ⟨by simp, h2.symm⟩
    · simp only [if_neg e]
      exact ⟨.inl, fun h => h.elim id fun h => by injection h with h _; exact absurd h e⟩
theorem ok_drop {s : St} {x : Rf} (h : Sim s x) {a : Int × Int} (ha : s.ok a) (b : Int × Int) : (s.turn a (-1)).1.ok b ↔ (s.ok b ∧ ((s.turn a (-1)).2.getD 0 = 0 → b.1 ≠ a.1)) := by
  obtain ⟨n, c, rfl, hc, h0⟩ := ok_cell ha
  have hcc := (h.count n c hc).2
  have hn := (List.getElem?_eq_some_iff.1 hc).1
  rw [turn_ok hc h0]
  simp only [Option.getD_some]
  by_cases hz : c.count + -1 = 0
  · rw [if_pos hz]
    have hget : ({ s with sl := s.sl.set n ⟨c.gen, c.count + -1, c.next⟩ } : St).get (n : Int) = ⟨c.gen, c.count + -1, c.next⟩ := by
      show ((s.sl.set n _)[((n : Int)).toNat]?).getD _ = _
      rw [Int.toNat_natCast, List.getElem?_set_self hn]; rfl
    obtain ⟨d, hd, hd0⟩ : ∃ d : Cell, (({ s with sl := s.sl.set n ⟨c.gen, c.count + -1, c.next⟩ } : St).freed (n : Int)).sl = s.sl.set n d ∧ d.count = 0 := by
      unfold St.freed
      simp only [hget]
      split
      · exact ⟨⟨0, c.count + -1, c.next⟩, by simp only [Int.toNat_natCast, List.set_set], hz⟩
      · exact ⟨⟨c.gen + 1, c.count + -1, s.head⟩, by simp only [Int.toNat_natCast, List.set_set], hz⟩
    rw [ok_set hn d hd]
    by_cases e : b.1 = (n : Int)
    · rw [if_pos e]
      exact ⟨fun h => absurd hd0 h.1, fun h => absurd e (h.2 hz)⟩
    · rw [if_neg e]
      exact ⟨fun h => ⟨h, fun _ => e⟩, fun h => h.1⟩
  · rw [if_neg hz, ok_set hn ⟨c.gen, c.count + -1, c.next⟩ rfl]
    by_cases e : b.1 = (n : Int)
    · rw [if_pos e]
      simp only [St.ok, St.get, e, Int.toNat_natCast, hc, Option.getD_some]
      exact ⟨fun h => ⟨⟨by omega, by omega, h0, h.2⟩, fun e => absurd e hz⟩, fun h => ⟨hz, h.1.2.2.2⟩⟩
    · rw [if_neg e]
      exact ⟨fun h => ⟨h, fun e => absurd e hz⟩, fun h => h.1⟩
/-- Handles that are live and of one slot are one. -/
theorem ok_same {s : St} {a b : Int × Int} (ha : s.ok a) (hb : s.ok b) (e : a.1 = b.1) : a = b := by
  obtain ⟨a1, a2⟩ := a
  obtain ⟨b1, b2⟩ := b
  simp only at e
  subst e
  have h1 := ha.2.2.2
  have h2 := hb.2.2.2
  simp only at h1 h2
  rw [← h1, ← h2]

section
variable {K : Int} {t : Tb} {x : Rf}
theorem Tb.Ok.fine (h : t.Ok K x) (hK : K ≤ 999999) : Fine t.s := h.sim.fine h.small hK (by have := h.len; omega) h.last
theorem Tb.Ok.mono {L : Int} (h : t.Ok K x) (hK : K ≤ L) : t.Ok L x := ⟨h.sim, h.small.mono hK, h.len, h.last, h.live, h.kn, h.sn, h.ks, h.n1, h.n2⟩
theorem Tb.Ok.entry (h : t.Ok K x) {a : Int × Int} (ha : t.s.ok a) : ∃ e, t.slot a.1 = some e ∧ e ∈ t.l ∧ e.h = a := by
  obtain ⟨e, he, rfl⟩ := (h.live a).1 ha
  cases hs : t.slot e.h.1 with
  | none => exact absurd rfl (slot_none hs e he)
  | some e' =>
    obtain ⟨h1, h2⟩ := slot_some hs
    have : e' = e := nodup_same h.sn e' h1 e he h2
    exact ⟨e', rfl, h1, by rw [this]⟩
theorem Tb.Ok.intern (h : t.Ok K x) (hK : 0 ≤ K) (k : ByteArray) (u : Array Value) (a : Nat) (hk : k.size ≤ 1000000) : (t.intern k u a).1.Ok (K + 1) (t.internR x k) := by
  unfold Tb.intern Tb.internR
  cases hf : t.look k with
  | some e =>
    obtain ⟨he, hek⟩ := look_some hf
    have hok := (h.live e.h).2 ⟨e, he, rfl⟩
    have hl := turn_len t.s e.h 1
    exact ⟨(sim_add h.sim e.h).2, turn_small h.small hK e.h 1 (by omega), by rw [hl.1]; exact h.len, by rw [hl.2]; exact h.last, fun b => (ok_add h.sim hok b).trans (h.live b), h.kn, h.sn, h.ks, h.n1, h.n2⟩
  | none =>
    have hno := look_none hf
    simp only
    by_cases h0 : t.s.left = 0
    · rw [if_pos h0]
      have hx : x.take.1 = x := by
        have hfr : x.free = [] := List.length_eq_zero_iff.1 (by have := h.sim.left; omega)
        unfold Rf.take; rw [hfr]
      rw [hx]
      exact h.mono (by omega)
    · rw [if_neg h0]
      obtain ⟨n, c, hc, hc0, ht, hok⟩ := ok_take h.sim h0
      have hl := act_len t.s 0 (0, 0)
      unfold St.act at hl
      rw [if_pos rfl] at hl
      have hsm := act_small h.small hK 0 (0, 0)
      unfold St.act at hsm
      rw [if_pos rfl] at hsm
      rw [ht]
      refine ⟨(sim_take h.sim).2, hsm, by rw [hl.1]; exact h.len, by rw [hl.2]; exact h.last, fun b => ?_, ?_, ?_, ?_, h.n1, h.n2⟩
      · rw [hok b, h.live b]
        constructor
        · rintro (⟨e, he, hb⟩ | hb)
          · exact ⟨e, List.mem_append_left _ he, hb⟩
          · exact ⟨_, List.mem_append_right _ (List.mem_singleton.2 rfl), hb.symm⟩
        · rintro ⟨e, he, hb⟩
          rcases List.mem_append.1 he with he | he
          · exact .inl ⟨e, he, hb⟩
          · rw [List.mem_singleton] at he
            subst he
            exact .inr hb.symm
      · show (List.map _ (t.l ++ [_])).Nodup
        rw [List.map_append, List.nodup_append]
        refine ⟨h.kn, by simp, fun a ha b hb => ?_⟩
        obtain ⟨e, he, rfl⟩ := List.mem_map.1 ha
        simp only [List.map_cons, List.map_nil, List.mem_singleton] at hb
        subst hb
        exact hno e he
      · show (List.map _ (t.l ++ [_])).Nodup
        rw [List.map_append, List.nodup_append]
        refine ⟨h.sn, by simp, fun a ha b hb => ?_⟩
        obtain ⟨e, he, rfl⟩ := List.mem_map.1 ha
        simp only [List.map_cons, List.map_nil, List.mem_singleton, Option.getD_some] at hb
        subst hb
        have hk := (h.live e.h).2 ⟨e, he, rfl⟩
        intro e1
        have := hk.2.2.1
        unfold St.get at this
        rw [e1, Int.toNat_natCast, hc] at this
        exact this hc0
      · intro e he
        rcases List.mem_append.1 he with he | he
        · exact h.ks e he
        · rw [List.mem_singleton] at he
          subst he
          exact hk
theorem Tb.Ok.release (h : t.Ok K x) (hK : 0 ≤ K) (a : Int × Int) : (t.release a).1.Ok (K + 1) (x.drop a).1 := by
  unfold Tb.release
  by_cases hok : t.s.ok a
  · rw [if_pos hok]
    have hl := turn_len t.s a (-1)
    have hsm := turn_small h.small hK a (-1) (by omega)
    have hd := ok_drop h.sim hok
    by_cases hz : (t.s.turn a (-1)).2.getD 0 = 0
    · rw [if_pos hz]
      refine ⟨(sim_drop h.sim a).2, hsm, by rw [hl.1]; exact h.len, by rw [hl.2]; exact h.last, fun b => ?_, ?_, ?_, fun e he => h.ks e (List.mem_filter.1 he).1, h.n1, h.n2⟩
      · rw [hd b, h.live b]
        constructor
        · rintro ⟨⟨e, he, rfl⟩, hb⟩
          exact ⟨e, List.mem_filter.2 ⟨he, by simpa using hb hz⟩, rfl⟩
        · rintro ⟨e, he, rfl⟩
          obtain ⟨he, hb⟩ := List.mem_filter.1 he
          exact ⟨⟨e, he, rfl⟩, fun _ => by simpa using hb⟩
      · exact h.kn.sublist (List.Sublist.map _ (List.filter_sublist))
      · exact h.sn.sublist (List.Sublist.map _ (List.filter_sublist))
    · rw [if_neg hz]
      exact ⟨(sim_drop h.sim a).2, hsm, by rw [hl.1]; exact h.len, by rw [hl.2]; exact h.last, fun b => by
        rw [hd b, ← h.live b]
        exact ⟨fun h => h.1, fun h => ⟨h, fun e => absurd e hz⟩⟩, h.kn, h.sn, h.ks, h.n1, h.n2⟩
  · rw [if_neg hok]
    have : (x.drop a).1 = x := by unfold Rf.drop; rw [if_neg (fun e => hok ((h.sim.ok_iff a).2 e))]
    rw [this]
    exact h.mono (by omega)
end
def newTb (room : Nat) (last : Int) (n : Nat) : Tb := ⟨newSt room last, [], n⟩
theorem newTb_ok (room n : Nat) (last : Int) (h1 : 1 ≤ room) (h2 : room ≤ 4096) (h3 : 1 ≤ last) (h4 : last ≤ 999999) (h5 : 1 ≤ n) (h6 : n ≤ 64) : (newTb room last n).Ok 0 (newRf room last) := by
  refine ⟨sim_new room last h3, small_new room last, by simp [newTb, newSt]; omega, h4, fun a => ?_, by simp [newTb], by simp [newTb], by simp [newTb], h5, h6⟩
  simp only [newTb, List.not_mem_nil, false_and, exists_false, iff_false]
  rintro ⟨h0, h1, h2, _⟩
  refine h2 ?_
  unfold St.get
  show (((newSt room last).sl[a.1.toNat]?).getD ⟨0, 0, 0⟩).count = 0
  cases hc : (newSt room last).sl[a.1.toNat]? with
  | none => rfl
  | some c =>
    simp only [newSt, List.getElem?_map] at hc
    obtain ⟨j, hj, rfl⟩ := Option.map_eq_some_iff.1 hc
    rfl

/-! ### The maps' entries -/
theorem lookIn (k : ByteArray) (n : Nat) : ∀ l : List Ent, lookK k ((l.filter fun e => decide (stripeN e.k n = stripeN k n)).map Ent.inK) = (l.find? fun e => decide (e.k = k)).map fun e => ptr e.a
  | [] => rfl
  | e :: l => by
    by_cases h : e.k = k
    · subst h; simp [lookK, Ent.inK]
    · by_cases h2 : stripeN e.k n = stripeN k n
      · have h' : ¬ k = e.k := fun e => h e.symm
        simp [lookK, Ent.inK, h2, h, h', lookIn k n l]
      · simp [h2, h, lookIn k n l]
theorem lookBy (i : Int) : ∀ l : List Ent, lookK i (l.map Ent.byK) = (l.find? fun e => decide (e.h.1 = i)).map fun e => ptr e.a
  | [] => rfl
  | e :: l => by
    by_cases h : e.h.1 = i
    · subst h; simp [lookK, Ent.byK]
    · have h' : ¬ i = e.h.1 := fun e => h e.symm
      simp [lookK, Ent.byK, h, h', lookBy i l]
theorem delBy (i : Int) : ∀ l : List Ent, (l.map (·.h.1)).Nodup → delK i (l.map Ent.byK) = (l.filter fun e => decide (e.h.1 ≠ i)).map Ent.byK
  | [], _ => rfl
  | e :: l, hn => by
    simp only [List.map_cons, List.nodup_cons] at hn
    by_cases h : e.h.1 = i
    · subst h
      have : l.filter (fun f => decide (f.h.1 ≠ e.h.1)) = l := List.filter_eq_self.2 fun f hf => by
        have : f.h.1 ≠ e.h.1 := fun e1 => hn.1 (List.mem_map.2 ⟨f, hf, e1⟩)
        simpa using this
      simp only [ne_eq, decide_not] at this
      simp [delK, Ent.byK, this]
    · have h' : ¬ i = e.h.1 := fun e => h e.symm
      have ih := delBy i l hn.2
      simp only [ne_eq, decide_not] at ih
      simp [delK, Ent.byK, h, h', ih]
theorem delK_absent {κ : Type} [DecidableEq κ] (k : κ) : ∀ kvs : List (κ × Value), (∀ p ∈ kvs, p.1 ≠ k) → delK k kvs = kvs
  | [], _ => rfl
  | (j, u) :: l, h => by
    have h1 : ¬ k = j := fun e => h (j, u) (List.mem_cons_self ..) e.symm
    simp only [delK, if_neg h1, delK_absent k l fun p hp => h p (List.mem_cons_of_mem _ hp)]
theorem delK_keys {κ : Type} [DecidableEq κ] {α : Type} (f : α → κ × Value) (k : κ) : ∀ l : List α, (l.map fun a => (f a).1).Nodup → delK k (l.map f) = (l.filter fun a => decide ((f a).1 ≠ k)).map f
  | [], _ => rfl
  | e :: l, hn => by
    simp only [List.map_cons, List.nodup_cons] at hn
    cases hfe : f e with
    | mk j u =>
    by_cases h : j = k
    · subst h
      have : l.filter (fun a => decide ((f a).1 ≠ j)) = l := List.filter_eq_self.2 fun g hg => by
        have : (f g).1 ≠ j := fun e1 => hn.1 (List.mem_map.2 ⟨g, hg, by rw [e1, hfe]⟩)
        simpa using this
      simp only [ne_eq, decide_not] at this
      simp [delK, hfe, this]
    · have h' : ¬ k = j := fun e => h e.symm
      have ih := delK_keys f k l hn.2
      simp only [ne_eq, decide_not] at ih
      simp [delK, hfe, h, h', ih]
/-- An entry is deleted from its stripe. -/
theorem delIn {l : List Ent} {e0 : Ent} (n : Nat) (he : e0 ∈ l) (hk : (l.map (·.k)).Nodup) (hs : (l.map (·.h.1)).Nodup) (j : Nat) (hj : j = stripeN e0.k n) :
    delK e0.k ((l.filter fun e => decide (stripeN e.k n = j)).map Ent.inK) = ((l.filter fun e => decide (e.h.1 ≠ e0.h.1)).filter fun e => decide (stripeN e.k n = j)).map Ent.inK := by
  have h1 : ((l.filter fun e => decide (stripeN e.k n = j)).map fun a => (Ent.inK a).1).Nodup := hk.sublist (List.Sublist.map _ List.filter_sublist)
  rw [delK_keys Ent.inK e0.k _ h1, List.filter_filter, List.filter_filter]
  congr 1
  refine List.filter_congr fun e hel => ?_
  have : (e.k ≠ e0.k) ↔ (e.h.1 ≠ e0.h.1) := not_congr ⟨fun h => by rw [nodup_same hk e hel e0 he h], fun h => by rw [nodup_same hs e hel e0 he h]⟩
  show (decide ((Ent.inK e).1 ≠ e0.k) && _) = (decide (stripeN e.k n = j) && _)
  rw [Bool.and_comm]
  congr 1
  exact decide_eq_decide.2 this
theorem delOther {l : List Ent} {e0 : Ent} (n : Nat) (he : e0 ∈ l) (hk : (l.map (·.k)).Nodup) (hs : (l.map (·.h.1)).Nodup) (j : Nat) (hj : j ≠ stripeN e0.k n) :
    ((l.filter fun e => decide (e.h.1 ≠ e0.h.1)).filter fun e => decide (stripeN e.k n = j)) = l.filter fun e => decide (stripeN e.k n = j) := by
  rw [List.filter_filter]
  refine List.filter_congr fun e hel => ?_
  by_cases h : stripeN e.k n = j
  · have : e.h.1 ≠ e0.h.1 := fun h2 => hj (by rw [← h, nodup_same hs e hel e0 he h2])
    simp [h, this]
  · simp [h]
end Go.Proofs.YtlpjjbkpoaohnaaDoor
