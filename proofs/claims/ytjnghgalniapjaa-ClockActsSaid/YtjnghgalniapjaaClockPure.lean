/- What a memo has, in plain lists: what was put last is there, as long as there is room; what is told was put. -/
import Derived.Test.YtjnghgalniapjaaMemoPure
set_option linter.unusedSimpArgs false
set_option linter.unusedVariables false
namespace Go.Proofs.Ytjnghgalniapjaa

def Has (m : Memo) (k : ByteArray) (ver : Int) (v : ByteArray) : Prop := ∃ n p, findP k m.l = some n ∧ m.l[n]? = some p ∧ p.ver = ver ∧ p.v = v

theorem getM_room (m : Memo) (k : ByteArray) (ver : Int) : (getM m k ver).1.room = m.room := by
  unfold getM; repeat' split
  all_goals rfl
theorem getM_len (m : Memo) (k : ByteArray) (ver : Int) : (getM m k ver).1.l.length = m.l.length := by
  unfold getM; repeat' split
  all_goals simp
theorem putM_room (m : Memo) (k : ByteArray) (ver : Int) (v : ByteArray) : (putM m k ver v).room = m.room := by
  unfold putM; repeat' split
  all_goals rfl
theorem putM_len (m : Memo) (k : ByteArray) (ver : Int) (v : ByteArray) : (putM m k ver v).l.length ≤ m.l.length + 1 := by
  unfold putM; repeat' split
  · simp
  · simp
  · simp [sweep_length]
theorem getM_has {m : Memo} {k : ByteArray} {ver : Int} {v : ByteArray} (h : Has m k ver v) : (getM m k ver).2 = (v, true) := by
  obtain ⟨n, p, h1, h2, h3, h4⟩ := h
  simp [getM, h1, h2, h3, h4]
theorem has_getM {m : Memo} {k j : ByteArray} {ver a : Int} {v : ByteArray} (h : Has m k ver v) : Has (getM m j a).1 k ver v := by
  unfold getM
  split
  · exact h
  · split
    · exact h
    · rename_i i hi x p hp
      split
      · obtain ⟨n, q, h1, h2, h3, h4⟩ := h
        refine ⟨n, if i = n then { p with mark := true } else q, ?_, ?_, ?_, ?_⟩
        · show findP k (m.l.set _ { p with mark := true }) = some n
          rw [findP_set (q := { p with mark := true }) hp rfl, h1]
        · show (m.l.set _ { p with mark := true })[n]? = _
          by_cases e : i = n
          · subst e; simp [(List.getElem?_eq_some_iff.1 hp).1]
          · simp [List.getElem?_set, e, h2]
        · by_cases e : i = n
          · subst e; rw [hp] at h2; cases h2; simp [h3]
          · simp [e, h3]
        · by_cases e : i = n
          · subst e; rw [hp] at h2; cases h2; simp [h4]
          · simp [e, h4]
      · exact h
theorem has_put_same {m : Memo} (hm : m.Ok) (k : ByteArray) (ver : Int) (v : ByteArray) : Has (putM m k ver v) k ver v := by
  unfold putM
  split
  · rename_i i hi
    obtain ⟨p, hp, hk⟩ := findP_some hi
    exact ⟨i, ⟨k, ver, v, true⟩, by show findP k (m.l.set i ⟨k, ver, v, true⟩) = _; rw [findP_set hp hk, hi], by show (m.l.set i _)[i]? = _; simp [(List.getElem?_eq_some_iff.1 hp).1], rfl, rfl⟩
  · rename_i hi
    have hn := findP_none.1 hi
    split
    · exact ⟨m.l.length, ⟨k, ver, v, true⟩, by show findP k (m.l ++ [⟨k, ver, v, true⟩]) = _; rw [findP_append, hi]; simp, by simp, rfl, rfl⟩
    · rename_i hfull
      have hk := sweep_keys m.room (marks m.l + 1) m.l m.hand
      have hl := sweep_length m.room (marks m.l + 1) m.l m.hand
      have hh := sweep_hand hm.lo (marks m.l + 1) m.l m.hand hm.hand
      have hlen := hm.len
      have hlt : (sweep m.room (marks m.l + 1) m.l m.hand).2 < (sweep m.room (marks m.l + 1) m.l m.hand).1.length := by omega
      have hp := List.getElem?_eq_getElem hlt
      refine ⟨(sweep m.room (marks m.l + 1) m.l m.hand).2, ⟨k, ver, v, true⟩, ?_, ?_, rfl, rfl⟩
      · show findP k ((sweep m.room (marks m.l + 1) m.l m.hand).1.set _ ⟨k, ver, v, true⟩) = _
        rw [findP_replace (by rw [hk]; exact hm.nodup) hp (by rw [hk]; exact hn)]
        simp
      · show ((sweep m.room (marks m.l + 1) m.l m.hand).1.set _ _)[_]? = _
        simp [hlt]
theorem has_put_other {m : Memo} (hm : m.Ok) {k j : ByteArray} {ver a : Int} {v b : ByteArray} (hj : j ≠ k) (hroom : m.l.length < m.room) (h : Has m j a b) : Has (putM m k ver v) j a b := by
  obtain ⟨n, q, h1, h2, h3, h4⟩ := h
  unfold putM
  split
  · rename_i i hi
    obtain ⟨p, hp, hk⟩ := findP_some hi
    have hin : i ≠ n := by
      rintro rfl
      obtain ⟨q', hq', hk'⟩ := findP_some h1
      rw [hp] at hq'
      cases hq'
      exact hj (hk'.symm.trans hk)
    exact ⟨n, q, by show findP j (m.l.set i ⟨k, ver, v, true⟩) = _; rw [findP_set hp hk, h1], by show (m.l.set i _)[n]? = _; simp [List.getElem?_set, hin, h2], h3, h4⟩
  · rw [if_pos hroom]
    refine ⟨n, q, ?_, ?_, h3, h4⟩
    · show findP j (m.l ++ _) = _
      rw [findP_append, h1]
    · show (m.l ++ _)[n]? = _
      rw [List.getElem?_append_left (List.getElem?_eq_some_iff.1 h2).1, h2]

structure Act where
  put : Bool
  k : ByteArray
  ver : Int
  v : ByteArray

/-- Of each text what was put last, of so many acts, is there. -/
def KHas (l : List Act) (i : Nat) (m : Memo) : Prop := ∀ (j : Nat) (a : Act), j < i → l[j]? = some a → (∀ (j' : Nat) (a' : Act), j < j' → j' < i → l[j']? = some a' → a'.k ≠ a.k) → Has m a.k a.ver a.v
structure KInv (l : List Act) (i : Nat) (m : Memo) : Prop where
  ok : m.Ok
  room : m.room = 40
  len : m.l.length ≤ i
  has : KHas l i m
theorem KInv.start (l : List Act) : KInv l 0 ⟨[], 40, 0⟩ := ⟨⟨by decide, by decide, by decide, by decide, by simp⟩, rfl, by simp, fun j a h => by omega⟩
theorem KInv.put {l : List Act} {i : Nat} {m : Memo} {a : Act} (h : KInv l i m) (hi : i < 40) (ha : l[i]? = some a) : KInv l (i + 1) (putM m a.k a.ver a.v) := by
  refine ⟨putM_ok h.ok _ _ _, (putM_room _ _ _ _).trans h.room, Nat.le_trans (putM_len _ _ _ _) (by have := h.len; omega), fun j b hj hb hlast => ?_⟩
  by_cases e : j = i
  · subst e
    rw [ha] at hb
    cases hb
    exact has_put_same h.ok _ _ _
  · have hne : a.k ≠ b.k := hlast i a (by omega) (by omega) ha
    exact has_put_other h.ok (Ne.symm hne) (by have := h.len; have := h.room; omega) (h.has j b (by omega) hb fun j' a' h1 h2 h3 => hlast j' a' h1 (by omega) h3)
theorem KInv.get {l : List Act} {i : Nat} {m : Memo} (h : KInv l i m) (k : ByteArray) (ver : Int) : KInv l i (getM m k ver).1 :=
  ⟨getM_ok h.ok _ _, (getM_room _ _ _).trans h.room, by rw [getM_len]; exact h.len, fun j b hj hb hlast => has_getM (h.has j b hj hb hlast)⟩
end Go.Proofs.Ytjnghgalniapjaa
