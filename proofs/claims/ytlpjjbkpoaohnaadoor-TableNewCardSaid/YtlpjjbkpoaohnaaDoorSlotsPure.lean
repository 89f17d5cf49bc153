/- Slots, plain: the program's (a list of slots, the free ones chained) and the reference's (rows of generations, of counts, of free ones), and that both tell the same. -/
import Derived.Test.YtlpjjbkpoaohnaaDoorBase
set_option linter.unusedVariables false
set_option linter.unusedSimpArgs false
namespace Go.Proofs.YtlpjjbkpoaohnaaDoor
namespace Slots

/-- A slot: its generation, its count, the next free one. -/
structure Cell where
  gen : Int
  count : Int
  next : Int
deriving DecidableEq
/-- The program's state. -/
structure St where
  sl : List Cell
  last : Int
  head : Int
  left : Int
  live : Int
/-- The reference's state. -/
structure Rf where
  gens : List Int
  counts : List Int
  free : List Int
  last : Int

def nat (i : Int) : Nat := i.toNat
def St.get (s : St) (i : Int) : Cell := (s.sl[i.toNat]?).getD ⟨0, 0, 0⟩
/-- Take: the handle, or none if all are taken. -/
def St.take (s : St) : St × Option (Int × Int) :=
  if s.left = 0 then (s, none) else
    let x := s.get s.head
    ({ s with sl := s.sl.set s.head.toNat ⟨x.gen, 1, x.next⟩, head := x.next, left := s.left - 1, live := s.live + 1 }, some (s.head, x.gen))
def St.ok (s : St) (h : Int × Int) : Prop := 0 ≤ h.1 ∧ h.1 < s.sl.length ∧ (s.get h.1).count ≠ 0 ∧ (s.get h.1).gen = h.2
instance (s : St) (h : Int × Int) : Decidable (s.ok h) := by unfold St.ok; infer_instance
/-- A slot is free again, if it may be. -/
def St.freed (s : St) (n : Int) : St :=
  let x := s.get n
  if x.gen = s.last then { s with sl := s.sl.set n.toNat ⟨0, x.count, x.next⟩, live := s.live - 1 }
  else { s with sl := s.sl.set n.toNat ⟨x.gen + 1, x.count, s.head⟩, live := s.live - 1, head := n, left := s.left + 1 }
/-- A live handle's count turned by d: the new count; none: it is not live. -/
def St.turn (s : St) (h : Int × Int) (d : Int) : St × Option Int :=
  if s.ok h then
    let x := s.get h.1
    let t := { s with sl := s.sl.set h.1.toNat ⟨x.gen, x.count + d, x.next⟩ }
    (if x.count + d = 0 then t.freed h.1 else t, some (x.count + d))
  else (s, none)

def Rf.gen (x : Rf) (i : Int) : Int := (x.gens[i.toNat]?).getD 0
def Rf.count (x : Rf) (i : Int) : Int := (x.counts[i.toNat]?).getD 0
def Rf.live (x : Rf) (h : Int × Int) : Prop := 0 ≤ h.1 ∧ h.1 < x.gens.length ∧ 0 < x.count h.1 ∧ x.gen h.1 = h.2
instance (x : Rf) (h : Int × Int) : Decidable (x.live h) := by unfold Rf.live; infer_instance
def Rf.with_ (x : Rf) (n gen count : Int) : Rf := { x with gens := x.gens.set n.toNat gen, counts := x.counts.set n.toNat count }
def Rf.take (x : Rf) : Rf × Option (Int × Int) :=
  match x.free with
  | [] => (x, none)
  | n :: l => ({ x.with_ n (x.gen n) 1 with free := l }, some (n, x.gen n))
def Rf.add (x : Rf) (h : Int × Int) : Rf × Option Int := if x.live h then (x.with_ h.1 h.2 (x.count h.1 + 1), some (x.count h.1 + 1)) else (x, none)
def Rf.drop (x : Rf) (h : Int × Int) : Rf × Option Int :=
  if x.live h then
    if x.count h.1 - 1 > 0 then (x.with_ h.1 h.2 (x.count h.1 - 1), some (x.count h.1 - 1))
    else (if h.2 < x.last then { x.with_ h.1 (h.2 + 1) 0 with free := h.1 :: x.free } else x.with_ h.1 (h.2 + 1) 0, some 0)
  else (x, none)
def Rf.many (x : Rf) : Nat := (x.counts.filter (0 < ·)).length

/-- The free ones, chained from a head. -/
def Chained (sl : List Cell) : Int → List Int → Prop
  | _, [] => True
  | h, n :: l => h = n ∧ ∃ c, sl[n.toNat]? = some c ∧ c.count = 0 ∧ Chained sl c.next l

/-- Both are alike. -/
structure Sim (s : St) (x : Rf) : Prop where
  lg : s.sl.length = x.gens.length
  lc : s.sl.length = x.counts.length
  last : s.last = x.last
  low : 1 ≤ s.last
  left : s.left = x.free.length
  live : s.live = x.many
  chain : Chained s.sl s.head x.free
  nodup : x.free.Nodup
  range : ∀ n ∈ x.free, 0 ≤ n ∧ n < s.sl.length
  count : ∀ (i : Nat) (c : Cell), s.sl[i]? = some c → x.counts[i]? = some c.count ∧ 0 ≤ c.count
  gen : ∀ (i : Nat) (c : Cell), s.sl[i]? = some c → (1 ≤ c.gen ∧ c.gen ≤ s.last ∧ x.gens[i]? = some c.gen) ∨ (c.gen = 0 ∧ c.count = 0 ∧ x.gens[i]? = some (s.last + 1) ∧ (i : Int) ∉ x.free)

theorem chained_set {sl : List Cell} {i : Nat} {c : Cell} : ∀ {h : Int} {l : List Int}, (∀ n ∈ l, n.toNat ≠ i) → Chained sl h l → Chained (sl.set i c) h l
  | _, [], _, _ => trivial
  | h, n :: l, hn, ⟨h1, c', h2, h3, h4⟩ => ⟨h1, c', by rw [List.getElem?_set_ne (Ne.symm (hn n (List.mem_cons_self ..)))]; exact h2, h3, chained_set (fun m hm => hn m (List.mem_cons_of_mem _ hm)) h4⟩
theorem many_set : ∀ {l : List Int} {i : Nat} {old : Int} (v : Int), l[i]? = some old → ((l.set i v).filter (0 < ·)).length + (if 0 < old then 1 else 0) = (l.filter (0 < ·)).length + (if 0 < v then 1 else 0)
  | [], i, old, v, h => by simp at h
  | a :: l, 0, old, v, h => by
    obtain rfl : a = old := by simpa using h
    simp only [List.set_cons_zero, List.filter_cons, decide_eq_true_eq]
    split <;> split <;> simp <;> omega
  | a :: l, i + 1, old, v, h => by
    have ih := many_set (l := l) (i := i) v (by simpa using h)
    simp only [List.set_cons_succ, List.filter_cons, decide_eq_true_eq]
    split <;> (try simp only [List.length_cons]) <;> omega

section
variable {s : St} {x : Rf}
theorem Sim.at_ (h : Sim s x) {i : Int} (h0 : 0 ≤ i) (h1 : i < s.sl.length) : s.sl[i.toNat]? = some (s.get i) := by
  unfold St.get
  have : i.toNat < s.sl.length := by omega
  rw [List.getElem?_eq_getElem this]
  rfl
theorem Sim.count_at (h : Sim s x) {i : Int} (h0 : 0 ≤ i) (h1 : i < s.sl.length) : x.count i = (s.get i).count ∧ 0 ≤ (s.get i).count := by
  obtain ⟨h2, h3⟩ := h.count _ _ (h.at_ h0 h1)
  exact ⟨by unfold Rf.count; rw [h2]; rfl, h3⟩
theorem Sim.gen_at (h : Sim s x) {i : Int} (h0 : 0 ≤ i) (h1 : i < s.sl.length) (hc : (s.get i).count ≠ 0) : x.gen i = (s.get i).gen ∧ 1 ≤ (s.get i).gen ∧ (s.get i).gen ≤ s.last := by
  rcases h.gen _ _ (h.at_ h0 h1) with ⟨h2, h3, h4⟩ | ⟨_, h3, _⟩
  · exact ⟨by unfold Rf.gen; rw [h4]; rfl, h2, h3⟩
  · exact absurd h3 hc
theorem Sim.ok_iff (h : Sim s x) (a : Int × Int) : s.ok a ↔ x.live a := by
  unfold St.ok Rf.live
  rw [← h.lg]
  constructor
  · rintro ⟨h0, h1, h2, h3⟩
    have hc := h.count_at h0 h1
    have hg := h.gen_at h0 h1 h2
    exact ⟨h0, h1, by omega, by rw [hg.1, h3]⟩
  · rintro ⟨h0, h1, h2, h3⟩
    have hc := h.count_at h0 h1
    have hn : (s.get a.1).count ≠ 0 := by omega
    exact ⟨h0, h1, hn, by rw [← (h.gen_at h0 h1 hn).1, h3]⟩
/-- A taken slot is no free one. -/
theorem chained_free : ∀ {sl : List Cell} {hd : Int} {l : List Int}, Chained sl hd l → ∀ n ∈ l, ∃ c, sl[n.toNat]? = some c ∧ c.count = 0
  | _, _, [], _, n, hn => by cases hn
  | sl, hd, m :: l, ⟨_, c, h2, h3, h4⟩, n, hn => by
    rcases List.mem_cons.1 hn with rfl | hn
    · exact ⟨c, h2, h3⟩
    · exact chained_free h4 n hn
theorem Sim.busy (h : Sim s x) {i : Int} (h0 : 0 ≤ i) (h1 : i < s.sl.length) (hc : (s.get i).count ≠ 0) : ∀ n ∈ x.free, n.toNat ≠ i.toNat := by
  intro n hn e
  obtain ⟨c, h2, h3⟩ := chained_free h.chain n hn
  rw [e, h.at_ h0 h1] at h2
  injection h2 with h2
  subst h2
  exact hc h3
theorem sim_take (h : Sim s x) : (s.take).2 = (x.take).2 ∧ Sim (s.take).1 (x.take).1 := by
  unfold St.take Rf.take
  cases hf : x.free with
  | nil =>
    have : s.left = 0 := by rw [h.left, hf]; rfl
    rw [if_pos this]
    exact ⟨rfl, h⟩
  | cons n l =>
    have hl : s.left ≠ 0 := by rw [h.left, hf, List.length_cons]; omega
    rw [if_neg hl]
    have hch := h.chain
    rw [hf] at hch
    obtain ⟨hd, c, hc, hc0, hrest⟩ := hch
    have hr := h.range n (by rw [hf]; exact List.mem_cons_self ..)
    have hnd := h.nodup
    rw [hf] at hnd
    obtain ⟨hnl, hnd⟩ := List.nodup_cons.1 hnd
    have hget : s.get n = c := by have := h.at_ hr.1 hr.2; rw [hc] at this; injection this with this; exact this.symm
    have hne : ∀ m ∈ l, m.toNat ≠ n.toNat := fun m hm e => hnl (by
      have := h.range m (by rw [hf]; exact List.mem_cons_of_mem _ hm)
      rwa [show n = m by omega])
    obtain ⟨hcn, _⟩ := h.count _ _ hc
    have hgn : x.gens[n.toNat]? = some c.gen ∧ 1 ≤ c.gen ∧ c.gen ≤ s.last := by
      rcases h.gen _ _ hc with ⟨a, b, d⟩ | ⟨_, _, _, d⟩
      · exact ⟨d, a, b⟩
      · exact absurd (by rw [Int.toNat_of_nonneg hr.1, hf]; exact List.mem_cons_self ..) d
    have hxg : x.gen n = c.gen := by unfold Rf.gen; rw [hgn.1]; rfl
    simp only [hd, hget, hxg, true_and]
    have hsame : x.gens.set n.toNat c.gen = x.gens := by
      apply List.ext_getElem?
      intro j
      by_cases e : n.toNat = j
      · subst e; rw [List.getElem?_set_self (by have := (List.getElem?_eq_some_iff.1 hgn.1).1; exact this), hgn.1]
      · rw [List.getElem?_set_ne e]
    refine ⟨by simpa [Rf.with_] using h.lg, by simpa [Rf.with_] using h.lc, h.last, h.low, ?_, ?_, ?_, hnd, ?_, ?_, ?_⟩
    · show s.left - 1 = _
      rw [h.left, hf, List.length_cons]; show _ = (l.length : Int); omega
    · show s.live + 1 = _
      have := many_set 1 hcn
      rw [hc0] at this
      simp only [Rf.many, Rf.with_]
      have h2 := h.live
      unfold Rf.many at h2
      simp only [Int.lt_irrefl, if_false, Int.zero_lt_one, if_true] at this
      omega
    · exact chained_set hne hrest
    · intro m hm
      have := h.range m (by rw [hf]; exact List.mem_cons_of_mem _ hm)
      simpa using this
    · intro i c' hi
      by_cases e : n.toNat = i
      · subst e
        rw [List.getElem?_set_self (by have := (List.getElem?_eq_some_iff.1 hc).1; exact this)] at hi
        injection hi with hi
        subst hi
        exact ⟨by simp only [Rf.with_]; rw [List.getElem?_set_self (by have := (List.getElem?_eq_some_iff.1 hcn).1; exact this)], by show (0:Int) ≤ 1; omega⟩
      · rw [List.getElem?_set_ne e] at hi
        simp only [Rf.with_]
        rw [List.getElem?_set_ne e]
        exact h.count i c' hi
    · intro i c' hi
      simp only [Rf.with_]
      rw [hsame]
      by_cases e : n.toNat = i
      · subst e
        rw [List.getElem?_set_self (by have := (List.getElem?_eq_some_iff.1 hc).1; exact this)] at hi
        injection hi with hi
        subst hi
        exact .inl ⟨hgn.2.1, hgn.2.2, hgn.1⟩
      · rw [List.getElem?_set_ne e] at hi
        rcases h.gen i c' hi with a | ⟨a, b, d, f⟩
        · exact .inl a
        · exact .inr ⟨a, b, d, fun hm => f (by rw [hf]; exact List.mem_cons_of_mem _ hm)⟩
/-- A busy slot's count turned to another that is above 0. -/
theorem Sim.set_count (h : Sim s x) {i : Int} (h0 : 0 ≤ i) (h1 : i < s.sl.length) (hc : (s.get i).count ≠ 0) {k : Int} (hk : 0 < k) :
    Sim { s with sl := s.sl.set i.toNat ⟨(s.get i).gen, k, (s.get i).next⟩ } (x.with_ i (s.get i).gen k) := by
  have hat := h.at_ h0 h1
  have hl : i.toNat < s.sl.length := by omega
  obtain ⟨hcn, hc0⟩ := h.count _ _ hat
  have hgn : x.gens[i.toNat]? = some (s.get i).gen ∧ 1 ≤ (s.get i).gen ∧ (s.get i).gen ≤ s.last := by
    rcases h.gen _ _ hat with ⟨a, b, d⟩ | ⟨_, b, _, _⟩
    · exact ⟨d, a, b⟩
    · exact absurd b hc
  have hsame : x.gens.set i.toNat (s.get i).gen = x.gens := by
    apply List.ext_getElem?
    intro j
    by_cases e : i.toNat = j
    · subst e; rw [List.getElem?_set_self (by have := h.lg; omega), hgn.1]
    · rw [List.getElem?_set_ne e]
  refine ⟨by simpa [Rf.with_] using h.lg, by simpa [Rf.with_] using h.lc, h.last, h.low, h.left, ?_, chained_set (h.busy h0 h1 hc) h.chain, h.nodup, fun m hm => by simpa using h.range m hm, ?_, ?_⟩
  · have := many_set k hcn
    rw [if_pos (by omega), if_pos hk] at this
    have h2 := h.live
    unfold Rf.many at h2
    simp only [Rf.many, Rf.with_]
    show s.live = _
    omega
  · intro j c' hj
    by_cases e : i.toNat = j
    · subst e
      rw [List.getElem?_set_self hl] at hj
      injection hj with hj
      subst hj
      exact ⟨by simp only [Rf.with_]; rw [List.getElem?_set_self (by have := h.lc; omega)], by show (0:Int) ≤ k; omega⟩
    · rw [List.getElem?_set_ne e] at hj
      simp only [Rf.with_]
      rw [List.getElem?_set_ne e]
      exact h.count j c' hj
  · intro j c' hj
    simp only [Rf.with_]
    rw [hsame]
    by_cases e : i.toNat = j
    · subst e
      rw [List.getElem?_set_self hl] at hj
      injection hj with hj
      subst hj
      exact .inl ⟨hgn.2.1, hgn.2.2, hgn.1⟩
    · rw [List.getElem?_set_ne e] at hj
      exact h.gen j c' hj
theorem sim_add (h : Sim s x) (a : Int × Int) : (s.turn a 1).2 = (x.add a).2 ∧ Sim (s.turn a 1).1 (x.add a).1 := by
  unfold St.turn Rf.add
  by_cases hok : s.ok a
  · rw [if_pos hok, if_pos ((h.ok_iff a).1 hok)]
    obtain ⟨h0, h1, h2, h3⟩ := hok
    obtain ⟨h4, h5⟩ := h.count_at h0 h1
    have hk : 0 < (s.get a.1).count + 1 := by omega
    have := h.set_count h0 h1 h2 hk
    simp only []
    rw [if_neg (by omega), h4, ← h3]
    exact ⟨rfl, this⟩
  · rw [if_neg hok, if_neg (fun e => hok ((h.ok_iff a).2 e))]
    exact ⟨rfl, h⟩
theorem sim_count (h : Sim s x) (a : Int × Int) : (s.turn a 0) = (s, if x.live a then some (x.count a.1) else none) := by
  unfold St.turn
  by_cases hok : s.ok a
  · rw [if_pos hok, if_pos ((h.ok_iff a).1 hok)]
    obtain ⟨h0, h1, h2, h3⟩ := hok
    obtain ⟨h4, h5⟩ := h.count_at h0 h1
    have hat := h.at_ h0 h1
    have hs : s.sl.set a.1.toNat ⟨(s.get a.1).gen, (s.get a.1).count + 0, (s.get a.1).next⟩ = s.sl := by
      rw [Int.add_zero]
      apply List.ext_getElem?
      intro j
      by_cases e : a.1.toNat = j
      · subst e; rw [List.getElem?_set_self (by omega), hat]
      · rw [List.getElem?_set_ne e]
    simp only []
    rw [if_neg (by omega), hs, h4, Int.add_zero]
  · rw [if_neg hok, if_neg (fun e => hok ((h.ok_iff a).2 e))]
theorem sim_drop (h : Sim s x) (a : Int × Int) : (s.turn a (-1)).2 = (x.drop a).2 ∧ Sim (s.turn a (-1)).1 (x.drop a).1 := by
  unfold St.turn Rf.drop
  by_cases hok : s.ok a
  · rw [if_pos hok, if_pos ((h.ok_iff a).1 hok)]
    obtain ⟨h0, h1, h2, h3⟩ := hok
    obtain ⟨h4, h5⟩ := h.count_at h0 h1
    have hat := h.at_ h0 h1
    have hl : a.1.toNat < s.sl.length := by omega
    simp only []
    by_cases hz : (s.get a.1).count + -1 = 0
    · rw [if_pos hz, if_neg (by omega)]
      refine ⟨by rw [hz], ?_⟩
      have hgn : x.gens[a.1.toNat]? = some (s.get a.1).gen ∧ 1 ≤ (s.get a.1).gen ∧ (s.get a.1).gen ≤ s.last := by
        rcases h.gen _ _ hat with ⟨p, q, d⟩ | ⟨_, b, _, _⟩
        · exact ⟨d, p, q⟩
        · exact absurd b h2
      obtain ⟨hcn, hc0⟩ := h.count _ _ hat
      have hbusy := h.busy h0 h1 h2
      have hnot : a.1 ∉ x.free := fun e => hbusy _ e rfl
      have hmany : ∀ y : Rf, y.counts = x.counts.set a.1.toNat 0 → s.live - 1 = (y.many : Int) := fun y hy => by
        have := many_set 0 hcn
        rw [if_pos (by omega), if_neg (by omega)] at this
        have h6 := h.live
        unfold Rf.many at h6 ⊢
        rw [hy]
        omega
      have hget : ({ s with sl := s.sl.set a.1.toNat ⟨(s.get a.1).gen, (s.get a.1).count + -1, (s.get a.1).next⟩ } : St).get a.1 = ⟨(s.get a.1).gen, 0, (s.get a.1).next⟩ := by
        show ((s.sl.set a.1.toNat _)[a.1.toNat]?).getD _ = _
        rw [List.getElem?_set_self hl, hz]
        rfl
      unfold St.freed
      simp only [hget, List.set_set]
      by_cases hlast : (s.get a.1).gen = s.last
      · have hlt : ¬ a.2 < x.last := by rw [← h3, hlast, h.last]; omega
        rw [if_pos hlast, if_neg hlt]
        refine ⟨by simpa [Rf.with_] using h.lg, by simpa [Rf.with_] using h.lc, h.last, h.low, h.left, hmany _ rfl, chained_set hbusy h.chain, h.nodup, fun m hm => by simpa using h.range m hm, ?_, ?_⟩
        · intro j c' hj
          by_cases e : a.1.toNat = j
          · subst e
            rw [List.getElem?_set_self hl] at hj
            injection hj with hj
            subst hj
            exact ⟨by simp only [Rf.with_]; rw [List.getElem?_set_self (by have := h.lc; omega)], Int.le_refl _⟩
          · rw [List.getElem?_set_ne e] at hj
            simp only [Rf.with_]
            rw [List.getElem?_set_ne e]
            exact h.count j c' hj
        · intro j c' hj
          simp only [Rf.with_]
          by_cases e : a.1.toNat = j
          · subst e
            rw [List.getElem?_set_self hl] at hj
            injection hj with hj
            subst hj
            refine .inr ⟨rfl, rfl, ?_, ?_⟩
            · rw [List.getElem?_set_self (by have := h.lg; omega), ← h3, hlast]
            · rw [Int.toNat_of_nonneg h0]; exact hnot
          · rw [List.getElem?_set_ne e] at hj
            rw [List.getElem?_set_ne e]
            exact h.gen j c' hj
      · have hlt : a.2 < x.last := by have := h.last; omega
        rw [if_neg hlast, if_pos hlt]
        refine ⟨by simpa [Rf.with_] using h.lg, by simpa [Rf.with_] using h.lc, h.last, h.low, ?_, hmany _ rfl, ⟨rfl, _, List.getElem?_set_self hl, rfl, chained_set hbusy h.chain⟩, List.nodup_cons.2 ⟨hnot, h.nodup⟩, ?_, ?_, ?_⟩
        · show s.left + 1 = _
          rw [h.left]; simp only [Rf.with_, List.length_cons]; omega
        · intro m hm
          rcases List.mem_cons.1 hm with rfl | hm
          · simpa using ⟨h0, h1⟩
          · simpa using h.range m hm
        · intro j c' hj
          by_cases e : a.1.toNat = j
          · subst e
            rw [List.getElem?_set_self hl] at hj
            injection hj with hj
            subst hj
            exact ⟨by simp only [Rf.with_]; rw [List.getElem?_set_self (by have := h.lc; omega)], Int.le_refl _⟩
          · rw [List.getElem?_set_ne e] at hj
            simp only [Rf.with_]
            rw [List.getElem?_set_ne e]
            exact h.count j c' hj
        · intro j c' hj
          simp only [Rf.with_]
          by_cases e : a.1.toNat = j
          · subst e
            rw [List.getElem?_set_self hl] at hj
            injection hj with hj
            subst hj
            refine .inl ⟨by show 1 ≤ (s.get a.1).gen + 1; omega, by show (s.get a.1).gen + 1 ≤ s.last; omega, ?_⟩
            rw [List.getElem?_set_self (by have := h.lg; omega), h3]
          · rw [List.getElem?_set_ne e] at hj
            rw [List.getElem?_set_ne e]
            rcases h.gen j c' hj with p | ⟨p, q, d, f⟩
            · exact .inl p
            · refine .inr ⟨p, q, d, fun hm => ?_⟩
              rcases List.mem_cons.1 hm with r | r
              · exact e (by omega)
              · exact f r
    · have hk : 0 < (s.get a.1).count + -1 := by omega
      have := h.set_count h0 h1 h2 hk
      rw [if_neg hz, if_pos (by omega), h4, ← h3]
      exact ⟨rfl, this⟩
  · rw [if_neg hok, if_neg (fun e => hok ((h.ok_iff a).2 e))]
    exact ⟨rfl, h⟩
end
def newSt (many : Nat) (last : Int) : St := { sl := (List.range many).map fun i : Nat => (⟨1, 0, (i : Int) + 1⟩ : Cell), last := last, head := 0, left := many, live := 0 }
def newRf (many : Nat) (last : Int) : Rf := { gens := List.replicate many 1, counts := List.replicate many 0, free := (List.range many).map fun i : Nat => (i : Int), last := last }
theorem chained_from (many : Nat) (last : Int) : ∀ (d i : Nat), i + d = many → Chained (newSt many last).sl (i : Int) ((List.range' i d).map fun i : Nat => (i : Int)) := by
  intro d
  induction d with
  | zero => intro i h; exact trivial
  | succ d ih =>
    intro i h
    refine ⟨rfl, ⟨1, 0, (i : Int) + 1⟩, ?_, rfl, ?_⟩
    · show ((List.range many).map fun i : Nat => (⟨1, 0, (i : Int) + 1⟩ : Cell))[(i : Int).toNat]? = _
      rw [Int.toNat_natCast, List.getElem?_map, List.getElem?_range (by omega)]
      rfl
    · have := ih (i + 1) (by omega)
      rw [show ((i + 1 : Nat) : Int) = (i : Int) + 1 by omega] at this
      exact this
theorem sim_new (many : Nat) (last : Int) (h : 1 ≤ last) : Sim (newSt many last) (newRf many last) := by
  have hcell : ∀ (i : Nat) (c : Cell), (newSt many last).sl[i]? = some c → i < many ∧ c = ⟨1, 0, (i : Int) + 1⟩ := by
    intro i c hi
    have hl : i < many := by have := (List.getElem?_eq_some_iff.1 hi).1; simpa [newSt] using this
    have : (newSt many last).sl[i]? = some ⟨1, 0, (i : Int) + 1⟩ := by simp [newSt, List.getElem?_map, List.getElem?_range hl]
    rw [this] at hi
    injection hi with hi
    exact ⟨hl, hi.symm⟩
  refine ⟨by simp [newSt, newRf], by simp [newSt, newRf], rfl, h, by simp [newSt, newRf], ?_, ?_, ?_, ?_, ?_, ?_⟩
  · have : ((List.replicate many (0 : Int)).filter (0 < ·)) = [] := List.filter_eq_nil_iff.2 fun a ha => by simp [(List.mem_replicate.1 ha).2]
    simp only [newSt, newRf, Rf.many, this]
    rfl
  · have := chained_from many last many 0 (by omega)
    simp only [newRf, List.range_eq_range']
    exact this
  · exact List.pairwise_map.2 ((List.nodup_range (n := many)).imp fun h e => h (by omega))
  · intro n hn
    obtain ⟨i, hi, rfl⟩ := List.mem_map.1 hn
    have := List.mem_range.1 hi
    simp [newSt]
    omega
  · intro i c hi
    obtain ⟨hl, rfl⟩ := hcell i c hi
    exact ⟨by simp [newRf, List.getElem?_replicate, hl], Int.le_refl _⟩
  · intro i c hi
    obtain ⟨hl, rfl⟩ := hcell i c hi
    exact .inl ⟨Int.le_refl _, h, by simp [newRf, List.getElem?_replicate, hl]⟩
end Slots
end Go.Proofs.YtlpjjbkpoaohnaaDoor
