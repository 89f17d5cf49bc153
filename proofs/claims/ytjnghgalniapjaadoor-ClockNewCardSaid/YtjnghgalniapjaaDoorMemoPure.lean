/- The memo as plain lists: what Get and Put make of it; no program in sight. -/
import Derived.WalkKit
set_option linter.unusedSimpArgs false
set_option linter.unusedVariables false
namespace Go.Proofs.YtjnghgalniapjaaDoor

structure Pl where
  k : ByteArray
  ver : Int
  v : ByteArray
  mark : Bool
structure Memo where
  l : List Pl
  room : Nat
  hand : Nat

/-- The first place of a text. -/
def findP (k : ByteArray) : List Pl → Option Nat
  | [] => none
  | p :: l => if p.k = k then some 0 else (findP k l).map (· + 1)
def marks (l : List Pl) : Nat := (l.filter (·.mark)).length
/-- The hand goes on as long as marks are set; n bounds the steps. -/
def sweep (room : Nat) : Nat → List Pl → Nat → List Pl × Nat
  | 0, l, h => (l, h)
  | n + 1, l, h => match l[h]? with
    | some p => if p.mark then sweep room n (l.set h { p with mark := false }) ((h + 1) % room) else (l, h)
    | none => (l, h)
def getM (m : Memo) (k : ByteArray) (ver : Int) : Memo × ByteArray × Bool :=
  match findP k m.l with
  | none => (m, ⟨#[]⟩, false)
  | some i => match m.l[i]? with
    | none => (m, ⟨#[]⟩, false)
    | some p => if p.ver = ver then ({ m with l := m.l.set i { p with mark := true } }, p.v, true) else (m, ⟨#[]⟩, false)
def putM (m : Memo) (k : ByteArray) (ver : Int) (v : ByteArray) : Memo :=
  match findP k m.l with
  | some i => { m with l := m.l.set i ⟨k, ver, v, true⟩ }
  | none =>
    if m.l.length < m.room then { m with l := m.l ++ [⟨k, ver, v, true⟩] }
    else
      let r := sweep m.room (marks m.l + 1) m.l m.hand
      { m with l := r.1.set r.2 ⟨k, ver, v, true⟩, hand := (r.2 + 1) % m.room }

structure Memo.Ok (m : Memo) : Prop where
  lo : 1 ≤ m.room
  hi : m.room ≤ 4096
  len : m.l.length ≤ m.room
  hand : m.hand < m.room
  nodup : (m.l.map (·.k)).Nodup

theorem findP_some {k : ByteArray} : ∀ {l : List Pl} {i : Nat}, findP k l = some i → ∃ p, l[i]? = some p ∧ p.k = k
  | [], i, h => by simp [findP] at h
  | q :: l, i, h => by
    by_cases e : q.k = k
    · simp only [findP, if_pos e, Option.some.injEq] at h
      subst h
      exact ⟨q, rfl, e⟩
    · simp only [findP, if_neg e, Option.map_eq_some_iff] at h
      obtain ⟨j, hj, rfl⟩ := h
      obtain ⟨p, hp, hk⟩ := findP_some hj
      exact ⟨p, by simpa using hp, hk⟩
theorem findP_none {k : ByteArray} : ∀ {l : List Pl}, findP k l = none ↔ k ∉ l.map (·.k)
  | [] => by simp [findP]
  | q :: l => by
    by_cases e : q.k = k
    · simp [findP, e]
    · have := @findP_none k l
      simp only [findP, if_neg e, Option.map_eq_none_iff, this, List.map_cons, List.mem_cons, not_or]
      exact ⟨fun h => ⟨fun h' => e h'.symm, h⟩, fun h => h.2⟩
theorem findP_lt {k : ByteArray} {l : List Pl} {i : Nat} (h : findP k l = some i) : i < l.length := by
  obtain ⟨p, hp, _⟩ := findP_some h
  exact (List.getElem?_eq_some_iff.1 hp).1
/-- Of texts that are each once: the place is told by its text. -/
theorem findP_of {k : ByteArray} : ∀ {l : List Pl} {i : Nat} {p : Pl}, (l.map (·.k)).Nodup → l[i]? = some p → p.k = k → findP k l = some i
  | [], i, p, _, h, _ => by simp at h
  | q :: l, 0, p, _, h, hk => by
    simp only [List.getElem?_cons_zero, Option.some.injEq] at h
    subst h
    simp [findP, hk]
  | q :: l, i + 1, p, hn, h, hk => by
    simp only [List.getElem?_cons_succ] at h
    simp only [List.map_cons, List.nodup_cons] at hn
    have e : ¬ q.k = k := fun e => hn.1 (by rw [e, ← hk]; exact List.mem_map.2 ⟨p, List.mem_of_getElem? h, rfl⟩)
    simp [findP, e, findP_of hn.2 h hk]
theorem findP_set {k : ByteArray} {q : Pl} : ∀ {l : List Pl} {i : Nat} {p : Pl}, l[i]? = some p → p.k = q.k → findP k (l.set i q) = findP k l
  | [], i, p, h, _ => by simp at h
  | x :: l, 0, p, h, hk => by
    simp only [List.getElem?_cons_zero, Option.some.injEq] at h
    subst h
    simp [findP, hk]
  | x :: l, i + 1, p, h, hk => by
    simp only [List.getElem?_cons_succ] at h
    simp [findP, findP_set (k := k) h hk]
theorem keys_set {q : Pl} : ∀ {l : List Pl} {i : Nat} {p : Pl}, l[i]? = some p → p.k = q.k → (l.set i q).map (·.k) = l.map (·.k)
  | [], i, p, h, _ => by simp at h
  | x :: l, 0, p, h, hk => by
    simp only [List.getElem?_cons_zero, Option.some.injEq] at h
    subst h
    simp [hk]
  | x :: l, i + 1, p, h, hk => by
    simp only [List.getElem?_cons_succ] at h
    simp [keys_set h hk]
theorem findP_append {k : ByteArray} {q : Pl} : ∀ {l : List Pl}, findP k (l ++ [q]) = match findP k l with | some i => some i | none => if q.k = k then some l.length else none
  | [] => by by_cases e : q.k = k <;> simp [findP, e]
  | x :: l => by
    by_cases e : x.k = k
    · simp [findP, e]
    · simp only [List.cons_append, findP, if_neg e, findP_append (k := k) (q := q) (l := l)]
      cases findP k l with
      | some i => simp
      | none => by_cases e' : q.k = k <;> simp [e']
/-- Another text takes a place: the old one is nowhere then. -/
theorem findP_replace {j : ByteArray} {q : Pl} : ∀ {l : List Pl} {i : Nat} {p : Pl}, (l.map (·.k)).Nodup → l[i]? = some p → q.k ∉ l.map (·.k) →
    findP j (l.set i q) = if j = q.k then some i else if j = p.k then none else findP j l
  | [], i, p, _, h, _ => by simp at h
  | x :: l, 0, p, hn, h, hq => by
    simp only [List.getElem?_cons_zero, Option.some.injEq] at h
    subst h
    simp only [List.map_cons, List.nodup_cons, List.mem_cons, not_or] at hn hq
    simp only [List.set_cons_zero, findP]
    by_cases e1 : j = q.k
    · simp [e1]
    · rw [if_neg (Ne.symm e1), if_neg e1]
      by_cases e2 : j = x.k
      · rw [if_pos e2, findP_none.2 (by rw [e2]; exact hn.1)]; rfl
      · rw [if_neg e2, if_neg (Ne.symm e2)]
  | x :: l, i + 1, p, hn, h, hq => by
    simp only [List.getElem?_cons_succ] at h
    simp only [List.map_cons, List.nodup_cons, List.mem_cons, not_or] at hn hq
    simp only [List.set_cons_succ, findP]
    rw [findP_replace hn.2 h hq.2]
    by_cases e0 : x.k = j
    · subst e0
      have e1 : ¬ x.k = q.k := Ne.symm hq.1
      have e2 : ¬ x.k = p.k := fun e => hn.1 (by rw [e]; exact List.mem_map.2 ⟨p, List.mem_of_getElem? h, rfl⟩)
      simp [e1, e2]
    · rw [if_neg e0, if_neg e0]
      by_cases e1 : j = q.k
      · simp [e1]
      · by_cases e2 : j = p.k <;> simp [e1, e2]
theorem keys_replace {q : Pl} : ∀ {l : List Pl} {i : Nat}, (l.map (·.k)).Nodup → q.k ∉ l.map (·.k) → ((l.set i q).map (·.k)).Nodup
  | [], i, _, _ => by simp
  | x :: l, 0, hn, hq => by
    simp only [List.map_cons, List.nodup_cons, List.mem_cons, not_or] at hn hq
    simp only [List.set_cons_zero, List.map_cons, List.nodup_cons]
    exact ⟨hq.2, hn.2⟩
  | x :: l, i + 1, hn, hq => by
    simp only [List.map_cons, List.nodup_cons, List.mem_cons, not_or] at hn hq
    simp only [List.set_cons_succ, List.map_cons, List.nodup_cons]
    refine ⟨fun hm => ?_, keys_replace hn.2 hq.2⟩
    obtain ⟨y, hy, e⟩ := List.mem_map.1 hm
    rcases List.mem_or_eq_of_mem_set hy with hy | hy
    · exact hn.1 (e ▸ List.mem_map.2 ⟨y, hy, rfl⟩)
    · subst hy; exact hq.1 e
theorem marks_set : ∀ {l : List Pl} {i : Nat} {p : Pl}, l[i]? = some p → p.mark = true → marks (l.set i { p with mark := false }) + 1 = marks l
  | [], i, p, h, _ => by simp at h
  | x :: l, 0, p, h, hm => by
    simp only [List.getElem?_cons_zero, Option.some.injEq] at h
    subst h
    simp [marks, hm]
  | x :: l, i + 1, p, h, hm => by
    simp only [List.getElem?_cons_succ] at h
    have := marks_set h hm
    unfold marks at this ⊢
    cases hx : x.mark <;> simp [hx] <;> omega
theorem marks_le (l : List Pl) : marks l ≤ l.length := List.length_filter_le _ _
theorem sweep_keys (room : Nat) : ∀ (n : Nat) (l : List Pl) (h : Nat), (sweep room n l h).1.map (·.k) = l.map (·.k)
  | 0, l, h => rfl
  | n + 1, l, h => by
    unfold sweep
    split
    · rename_i p hp
      split
      · rw [sweep_keys room n]; exact keys_set (q := { p with mark := false }) hp rfl
      · rfl
    · rfl
theorem sweep_hand {room : Nat} (hr : 0 < room) : ∀ (n : Nat) (l : List Pl) (h : Nat), h < room → (sweep room n l h).2 < room
  | 0, l, h, hh => hh
  | n + 1, l, h, hh => by
    unfold sweep
    split
    · split
      · exact sweep_hand hr n _ _ (Nat.mod_lt _ hr)
      · exact hh
    · exact hh
theorem sweep_length (room n : Nat) (l : List Pl) (h : Nat) : (sweep room n l h).1.length = l.length := by
  have := congrArg List.length (sweep_keys room n l h)
  simpa using this

theorem getM_ok {m : Memo} (h : m.Ok) (k : ByteArray) (ver : Int) : (getM m k ver).1.Ok := by
  unfold getM
  split
  · exact h
  · split
    · exact h
    · rename_i p hp
      split
      · exact ⟨h.lo, h.hi, by simpa using h.len, h.hand, by show (List.map _ (m.l.set _ { p with mark := true })).Nodup; rw [keys_set (q := { p with mark := true }) hp rfl]; exact h.nodup⟩
      · exact h
theorem putM_ok {m : Memo} (h : m.Ok) (k : ByteArray) (ver : Int) (v : ByteArray) : (putM m k ver v).Ok := by
  unfold putM
  split
  · rename_i i hi
    obtain ⟨p, hp, hk⟩ := findP_some hi
    exact ⟨h.lo, h.hi, by simpa using h.len, h.hand, by show (List.map _ (m.l.set _ _)).Nodup; rw [keys_set hp hk]; exact h.nodup⟩
  · rename_i hi
    have hn := findP_none.1 hi
    split
    · rename_i hl
      refine ⟨h.lo, h.hi, by simp; omega, h.hand, ?_⟩
      show (List.map _ (m.l ++ _)).Nodup
      rw [List.map_append, List.nodup_append]
      exact ⟨h.nodup, by simp, by intro a ha b hb; simp only [List.map_cons, List.map_nil, List.mem_singleton] at hb; subst hb; exact fun e => hn (e ▸ ha)⟩
    · have hk := sweep_keys m.room (marks m.l + 1) m.l m.hand
      have hlen := sweep_length m.room (marks m.l + 1) m.l m.hand
      refine ⟨h.lo, h.hi, by simpa [hlen] using h.len, Nat.mod_lt _ h.lo, ?_⟩
      exact keys_replace (by rw [hk]; exact h.nodup) (by rw [hk]; exact hn)
end Go.Proofs.YtjnghgalniapjaaDoor
