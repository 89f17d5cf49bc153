/- What is told of a memo was put: in plain lists. -/
import Derived.Test.YtjnghgalniapjaaClockPure
set_option linter.unusedSimpArgs false
set_option linter.unusedVariables false
namespace Go.Proofs.Ytjnghgalniapjaa

def doM (m : Memo) (a : Act) : Memo × ByteArray × Bool := if a.put then (putM m a.k a.ver a.v, ⟨#[]⟩, false) else getM m a.k a.ver
theorem doM_ok {m : Memo} (h : m.Ok) (a : Act) : (doM m a).1.Ok := by
  unfold doM
  split
  · exact putM_ok h _ _ _
  · exact getM_ok h _ _
theorem doM_room (m : Memo) (a : Act) : (doM m a).1.room = m.room := by
  unfold doM
  split
  · exact putM_room _ _ _ _
  · exact getM_room _ _ _
theorem doM_len (m : Memo) (a : Act) : (doM m a).1.l.length ≤ m.l.length + 1 := by
  unfold doM
  split
  · exact putM_len _ _ _ _
  · have := getM_len m a.k a.ver
    show (getM m a.k a.ver).1.l.length ≤ _
    omega

def SameP (p q : Pl) : Prop := q.k = p.k ∧ q.ver = p.ver ∧ q.v = p.v
theorem mem_set_same {l : List Pl} {i : Nat} {q p x : Pl} (hi : l[i]? = some q) (hs : SameP p q) (hx : x ∈ l.set i p) : ∃ y ∈ l, SameP x y := by
  rcases List.mem_or_eq_of_mem_set hx with h | rfl
  · exact ⟨x, h, rfl, rfl, rfl⟩
  · exact ⟨q, List.mem_of_getElem? hi, hs⟩
theorem sweep_same (room : Nat) : ∀ (n : Nat) (l : List Pl) (h : Nat) (x : Pl), x ∈ (sweep room n l h).1 → ∃ y ∈ l, SameP x y
  | 0, l, h, x, hx => ⟨x, hx, rfl, rfl, rfl⟩
  | n + 1, l, h, x, hx => by
    unfold sweep at hx
    split at hx
    · rename_i p hp
      split at hx
      · obtain ⟨y, hy, h1, h2, h3⟩ := sweep_same room n _ _ x hx
        obtain ⟨z, hz, g1, g2, g3⟩ := mem_set_same (p := { p with mark := false }) hp ⟨rfl, rfl, rfl⟩ hy
        exact ⟨z, hz, g1.trans h1, g2.trans h2, g3.trans h3⟩
      · exact ⟨x, hx, rfl, rfl, rfl⟩
    · exact ⟨x, hx, rfl, rfl, rfl⟩
theorem getM_mem {m : Memo} {k : ByteArray} {ver : Int} {x : Pl} (hx : x ∈ (getM m k ver).1.l) : ∃ y ∈ m.l, SameP x y := by
  unfold getM at hx
  split at hx
  · exact ⟨x, hx, rfl, rfl, rfl⟩
  · split at hx
    · exact ⟨x, hx, rfl, rfl, rfl⟩
    · rename_i p hp
      split at hx
      · exact mem_set_same (p := { p with mark := true }) hp ⟨rfl, rfl, rfl⟩ hx
      · exact ⟨x, hx, rfl, rfl, rfl⟩
theorem mem_set_ne {l : List Pl} {i : Nat} {q p x : Pl} (hn : (l.map (·.k)).Nodup) (hi : l[i]? = some q) (hk : q.k = p.k) (hx : x ∈ l.set i p) : x = p ∨ x.k ≠ p.k ∧ x ∈ l := by
  obtain ⟨j, hj⟩ := List.getElem?_of_mem hx
  by_cases e : i = j
  · subst e
    have := (List.getElem?_eq_some_iff.1 hi).1
    simp [this] at hj
    exact .inl hj.symm
  · rw [List.getElem?_set_ne e] at hj
    refine .inr ⟨fun hh => ?_, List.mem_of_getElem? hj⟩
    have h1 := findP_of hn hi rfl
    have h2 := findP_of hn hj (hh.trans hk.symm)
    rw [h1] at h2
    exact e (Option.some.inj h2)
theorem putM_mem {m : Memo} (hm : m.Ok) {k : ByteArray} {ver : Int} {v : ByteArray} {x : Pl} (hx : x ∈ (putM m k ver v).l) : x = ⟨k, ver, v, true⟩ ∨ x.k ≠ k ∧ ∃ y ∈ m.l, SameP x y := by
  unfold putM at hx
  split at hx
  · rename_i i hi
    obtain ⟨p, hp, hk⟩ := findP_some hi
    rcases mem_set_ne (p := ⟨k, ver, v, true⟩) hm.nodup hp hk hx with h | ⟨h1, h2⟩
    · exact .inl h
    · exact .inr ⟨h1, x, h2, rfl, rfl, rfl⟩
  · rename_i hi
    have hn := findP_none.1 hi
    split at hx
    · rcases List.mem_append.1 hx with h | h
      · exact .inr ⟨fun e => hn (e ▸ List.mem_map.2 ⟨x, h, rfl⟩), x, h, rfl, rfl, rfl⟩
      · exact .inl (List.mem_singleton.1 h)
    · rcases List.mem_or_eq_of_mem_set hx with h | h
      · obtain ⟨y, hy, hs⟩ := sweep_same _ _ _ _ x h
        exact .inr ⟨fun e => hn (by rw [← e, ← hs.1]; exact List.mem_map.2 ⟨y, hy, rfl⟩), y, hy, hs⟩
      · exact .inl h
theorem getM_hit {m : Memo} {k : ByteArray} {ver : Int} (h : (getM m k ver).2.2 = true) : ∃ p ∈ m.l, p.k = k ∧ p.ver = ver ∧ (getM m k ver).2.1 = p.v := by
  cases hf : findP k m.l with
  | none => simp [getM, hf] at h
  | some i =>
    obtain ⟨p, hp, hk⟩ := findP_some hf
    by_cases hv : p.ver = ver
    · exact ⟨p, List.mem_of_getElem? hp, hk, hv, by simp [getM, hf, hp, hv]⟩
    · simp [getM, hf, hp, hv] at h

/-- Act j is the last one, of the first i, that puts text k. -/
def LastPut (l : List Act) (i : Nat) (k : ByteArray) (j : Nat) (a : Act) : Prop := j < i ∧ l[j]? = some a ∧ a.put = true ∧ a.k = k ∧ ∀ (j' : Nat) (a' : Act), j < j' → j' < i → l[j']? = some a' → a'.put = true → a'.k ≠ k
structure TInv (l : List Act) (i room : Nat) (m : Memo) : Prop where
  ok : m.Ok
  room : m.room = room
  len : m.l.length ≤ i
  put : ∀ p ∈ m.l, ∃ j a, LastPut l i p.k j a ∧ a.ver = p.ver ∧ a.v = p.v
theorem TInv.start (l : List Act) (r : Nat) (h1 : 1 ≤ r) (h2 : r ≤ 4096) : TInv l 0 r ⟨[], r, 0⟩ := ⟨⟨h1, h2, by simp, h1, by simp⟩, rfl, by simp, fun p hp => by simp at hp⟩
theorem TInv.step {l : List Act} {i r : Nat} {m : Memo} {a : Act} (h : TInv l i r m) (ha : l[i]? = some a) : TInv l (i + 1) r (doM m a).1 := by
  refine ⟨doM_ok h.ok a, (doM_room m a).trans h.room, Nat.le_trans (doM_len m a) (by have := h.len; omega), fun p hp => ?_⟩
  unfold doM at hp
  split at hp
  · rename_i hput
    rcases putM_mem h.ok hp with rfl | ⟨hne, y, hy, hs⟩
    · exact ⟨i, a, ⟨by omega, ha, hput, rfl, fun j' a' h1 h2 => by omega⟩, rfl, rfl⟩
    · obtain ⟨j, b, ⟨g1, g2, g3, g4, g5⟩, g6, g7⟩ := h.put y hy
      refine ⟨j, b, ⟨by omega, g2, g3, g4.trans hs.1, fun j' a' h1 h2 h3 h4 => ?_⟩, g6.trans hs.2.1, g7.trans hs.2.2⟩
      by_cases e : j' = i
      · subst e
        rw [ha] at h3
        cases h3
        exact Ne.symm hne
      · rw [← hs.1]
        exact g5 j' a' h1 (by omega) h3 h4
  · rename_i hput
    obtain ⟨y, hy, hs⟩ := getM_mem hp
    obtain ⟨j, b, ⟨g1, g2, g3, g4, g5⟩, g6, g7⟩ := h.put y hy
    refine ⟨j, b, ⟨by omega, g2, g3, g4.trans hs.1, fun j' a' h1 h2 h3 h4 => ?_⟩, g6.trans hs.2.1, g7.trans hs.2.2⟩
    by_cases e : j' = i
    · subst e
      rw [ha] at h3
      cases h3
      exact absurd h4 hput
    · rw [← hs.1]
      exact g5 j' a' h1 (by omega) h3 h4
/-- What an act is told was put for it last. -/
theorem TInv.told {l : List Act} {i r : Nat} {m : Memo} {a : Act} (h : TInv l i r m) (hok : (doM m a).2.2 = true) : ∃ j b, LastPut l i a.k j b ∧ b.ver = a.ver ∧ b.v = (doM m a).2.1 := by
  unfold doM at hok ⊢
  split at hok
  · simp at hok
  · rename_i hput
    rw [if_neg hput]
    obtain ⟨p, hp, h1, h2, h3⟩ := getM_hit hok
    obtain ⟨j, b, h4, h5, h6⟩ := h.put p hp
    exact ⟨j, b, h1 ▸ h4, h5.trans h2, h6.trans h3.symm⟩
end Go.Proofs.Ytjnghgalniapjaa
