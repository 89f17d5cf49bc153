/- A tree of rules in memory: its begin, a map more, a node more, a rule more. -/
import Derived.Test.YtgljkgkmbfhgiaaDoorTrie2
set_option linter.unusedSimpArgs false
set_option linter.unusedVariables false
namespace Go.Proofs.YtgljkgkmbfhgiaaDoor
open Go.RowKit

/-- The tree, with blocks of its own from B on. -/
structure Tree (B : Nat) (w : World) (a : Addrs) (R E : List ByteArray → Bool) : Prop where
  at_ : TrieAt w a R E
  inj : ∀ p q b om om', a p = some (b, om) → a q = some (b, om') → p = q
  injm : ∀ p q b b' mb, a p = some (b, some mb) → a q = some (b', some mb) → p = q
  lo : ∀ p b om, a p = some (b, om) → B ≤ b ∧ ∀ mb, om = some mb → B ≤ mb
section
variable {B : Nat} {w w' : World} {a : Addrs} {R E : List ByteArray → Bool}
theorem Tree.keep (h : Tree B w a R E) (hb : Below w.heap.size w w') : Tree B w' a R E := ⟨h.at_.keep hb, h.inj, h.injm, h.lo⟩
theorem Tree.drew (h : Tree B w a R E) : Tree B w.drew a R E := h.keep (Below.refl _ w).drew
theorem Tree.alloc (h : Tree B w a R E) (o : Obj) : Tree B (w.alloc o) a R E := h.keep ((Below.refl _ w).alloc (Nat.le_refl _) o)
theorem Tree.set_ (h : Tree B w a R E) {ad : Addr} (hp : ∀ p b om, a p = some (b, om) → b ≠ ad.block ∧ ∀ mb, om = some mb → mb ≠ ad.block) (u : Value) : Tree B (w.setCell ad u) a R E := by
  refine ⟨⟨fun p b om e => (h.at_.node p b om e).far (hp p b om e).1 u, fun p b mb e => ?_, h.at_.leaf, h.at_.out, h.at_.off⟩, h.inj, h.injm, h.lo⟩
  obtain ⟨kvs, h1, h2⟩ := h.at_.kids p b mb e
  exact ⟨kvs, h1.far ((hp p b _ e).2 mb rfl) u, h2⟩
/-- A store into a block that is no node. -/
theorem Tree.setT (h : Tree B w a R E) {g : Nat} {t : TypeId} {cs : Array Value} (hg : Blk w g t cs) (ht : 71 ≠ t) (i : Nat) (u : Value) : Tree B (w.setCell ⟨g, i, none⟩ u) a R E :=
  h.set_ (fun p b om e => ⟨(h.at_.node p b om e).ne_ hg ht, fun mb em => by subst em; obtain ⟨kvs, h1, _⟩ := h.at_.kids p b mb e; exact h1.ne_blk hg⟩) u
theorem Tree.start (w : World) (hB : B ≤ w.heap.size) : Tree B (w.alloc (.cells #[.map none, .bool false, .bool false] 71)) (fun q => if q = [] then some (w.heap.size, none) else none) (fun _ => false) (fun _ => false) := by
  refine ⟨⟨?_, ?_, ?_, ?_, fun p _ => ⟨rfl, rfl⟩⟩, ?_, ?_, ?_⟩
  · intro p b om e
    split at e
    · cases e; exact Blk.new w _ _
    · cases e
  · intro p b mb e
    split at e <;> cases e
  · intro p b e k
    simp
  · intro p k e
    simp
  · intro p q b om om' e e'
    split at e
    · split at e'
      · rename_i h1 h2; rw [h1, h2]
      · cases e'
    · cases e
  · intro p q b b' mb e e'
    split at e <;> cases e
  · intro p b om e
    split at e
    · cases e; exact ⟨hB, fun mb e => by cases e⟩
    · cases e
end
def upd (a : Addrs) (p : List ByteArray) (x : Nat × Option Nat) : Addrs := fun q => if q = p then some x else a q
theorem upd_at (a : Addrs) (p : List ByteArray) (x : Nat × Option Nat) : upd a p x p = some x := by simp [upd]
theorem upd_ne (a : Addrs) {p q : List ByteArray} (x : Nat × Option Nat) (h : q ≠ p) : upd a p x q = a q := by simp [upd, h]
theorem snoc_ne (p : List ByteArray) (k : ByteArray) : p ++ [k] ≠ p := fun e => by have := congrArg List.length e; simp at this
theorem snoc_inj {p q : List ByteArray} {k j : ByteArray} (h : p ++ [k] = q ++ [j]) : p = q ∧ k = j := by
  have := List.append_inj' h rfl
  exact ⟨this.1, by simpa using this.2⟩
section
variable {B : Nat} {w w' : World} {a : Addrs} {R E : List ByteArray → Bool}
theorem Tree.up (h : Tree B w a R E) {p : List ByteArray} {k : ByteArray} (hk : a (p ++ [k]) ≠ none) : a p ≠ none := fun e => hk (h.at_.out p k e)
/-- A node gets a map: a new one, without entries. -/
theorem Tree.newmap (h : Tree B w a R E) (hB : B ≤ w.heap.size) {p : List ByteArray} {b : Nat} (hp : a p = some (b, none)) :
    Tree B ((w.alloc (.map #[] 0)).setCell ⟨b, 0, none⟩ (.map (some w.heap.size))) (upd a p (b, some w.heap.size)) R E := by
  have hb := h.at_.node p b none hp
  have hmb : ∀ q b' mb, a q = some (b', some mb) → mb < w.heap.size := fun q b' mb e => by obtain ⟨kvs, h1, _⟩ := h.at_.kids q b' mb e; exact h1.lt
  refine ⟨⟨?_, ?_, ?_, ?_, ?_⟩, ?_, ?_, ?_⟩
  · intro q b' om e
    by_cases hq : q = p
    · subst hq
      rw [upd_at] at e
      cases e
      exact (hb.alloc _).set_ 0 _
    · rw [upd_ne _ _ hq] at e
      exact ((h.at_.node q b' om e).alloc _).far (fun eb => hq (h.inj q p b' om none e (by have eb' : b' = b := eb; rw [eb']; exact hp))) _
  · intro q b' mb e
    by_cases hq : q = p
    · subst hq
      rw [upd_at] at e
      cases e
      refine ⟨[], (MapK.new _ w).far (by have := hb.lt; simp; omega) _, Idx.nil.congr fun k => ?_⟩
      rw [upd_ne _ _ (snoc_ne q k), h.at_.leaf q _ hp k]
      rfl
    · rw [upd_ne _ _ hq] at e
      obtain ⟨kvs, h1, h2⟩ := h.at_.kids q b' mb e
      refine ⟨kvs, (h1.alloc _).far (h1.ne_blk hb) _, h2.congr fun k => ?_⟩
      by_cases hqp : q ++ [k] = p
      · rw [hqp, upd_at, hp]
        rfl
      · rw [upd_ne _ _ hqp]
  · intro q b' e k
    by_cases hq : q = p
    · subst hq
      rw [upd_at] at e
      cases e
    · rw [upd_ne _ _ hq] at e
      have hn := h.at_.leaf q b' e k
      rw [upd_ne _ _ (fun e2 => by rw [e2, hp] at hn; cases hn)]
      exact hn
  · intro q k e
    by_cases hq : q = p
    · subst hq
      rw [upd_at] at e
      cases e
    · rw [upd_ne _ _ hq] at e
      have hn := h.at_.out q k e
      rw [upd_ne _ _ (fun e2 => by rw [e2, hp] at hn; cases hn)]
      exact hn
  · intro q e
    by_cases hq : q = p
    · subst hq
      rw [upd_at] at e
      cases e
    · rw [upd_ne _ _ hq] at e
      exact h.at_.off q e
  · intro q q' b' om om' e e'
    by_cases hq : q = p <;> by_cases hq' : q' = p
    · rw [hq, hq']
    · rw [hq, upd_at] at e
      rw [upd_ne _ _ hq'] at e'
      cases e
      exact absurd (h.inj q' p b om' none e' hp) hq'
    · rw [hq', upd_at] at e'
      rw [upd_ne _ _ hq] at e
      cases e'
      exact absurd (h.inj q p b om none e hp) hq
    · rw [upd_ne _ _ hq] at e
      rw [upd_ne _ _ hq'] at e'
      exact h.inj q q' b' om om' e e'
  · intro q q' b1 b2 mb e e'
    by_cases hq : q = p <;> by_cases hq' : q' = p
    · rw [hq, hq']
    · rw [hq, upd_at] at e
      rw [upd_ne _ _ hq'] at e'
      cases e
      have := hmb _ _ _ e'
      omega
    · rw [hq', upd_at] at e'
      rw [upd_ne _ _ hq] at e
      cases e'
      have := hmb _ _ _ e
      omega
    · rw [upd_ne _ _ hq] at e
      rw [upd_ne _ _ hq'] at e'
      exact h.injm q q' b1 b2 mb e e'
  · intro q b' om e
    by_cases hq : q = p
    · rw [hq, upd_at] at e
      cases e
      exact ⟨(h.lo p b none hp).1, fun mb em => by cases em; exact hB⟩
    · rw [upd_ne _ _ hq] at e
      exact h.lo q b' om e
/-- A node gets a child: a new one, put into its map. -/
theorem Tree.newkid (h : Tree B w a R E) (hB : B ≤ w.heap.size) {p : List ByteArray} {b mb : Nat} {k : ByteArray} (hp : a p = some (b, some mb)) (hk : a (p ++ [k]) = none) {kvs : List (ByteArray × Value)}
    (hx : Idx kvs (fun j => (a (p ++ [j])).map fun x => .pointer (some ⟨x.1, 0, none⟩)))
    (hm : MapK Value.string w' mb (putK k (.pointer (some ⟨w.heap.size, 0, none⟩)) kvs)) (hg : (w.alloc (.cells #[.map none, .bool false, .bool false] 71)).grownBy w' (some mb)) :
    Tree B w' (upd a (p ++ [k]) (w.heap.size, none)) R E := by
  have hlt : ∀ q b' om, a q = some (b', om) → b' < w.heap.size := fun q b' om e => (h.at_.node q b' om e).lt
  have hne : ∀ q b' om, a q = some (b', om) → some b' ≠ some mb := fun q b' om e e2 => by
    cases e2
    obtain ⟨kvs', h1, _⟩ := h.at_.kids p b mb hp
    exact h1.ne_blk (h.at_.node q mb om e) rfl
  have hpk := snoc_ne p k
  refine ⟨⟨?_, ?_, ?_, ?_, ?_⟩, ?_, ?_, ?_⟩
  · intro q b' om e
    by_cases hq : q = p ++ [k]
    · rw [hq, upd_at] at e
      cases e
      rw [hq, (h.at_.off _ hk).1, (h.at_.off _ hk).2]
      refine (Blk.new w _ _).grown hg ?_
      intro e2
      cases e2
      obtain ⟨kvs', h1, _⟩ := h.at_.kids p b _ hp
      have := h1.lt
      omega
    · rw [upd_ne _ _ hq] at e
      exact ((h.at_.node q b' om e).alloc _).grown hg (hne q b' om e)
  · intro q b' mb' e
    by_cases hq : q = p ++ [k]
    · rw [hq, upd_at] at e
      cases e
    · rw [upd_ne _ _ hq] at e
      by_cases hqp : q = p
      · subst hqp
        rw [hp] at e
        cases e
        refine ⟨_, hm, (hx.put k _).congr fun j => ?_⟩
        by_cases hj : j = k
        · subst hj
          rw [upd_at]
          simp
        · rw [upd_ne _ _ (fun e2 => hj (snoc_inj e2).2), if_neg hj]
      · obtain ⟨kvs', h1, h2⟩ := h.at_.kids q b' mb' e
        refine ⟨kvs', (h1.alloc _).grown hg (fun e2 => by cases e2; exact hqp (h.injm q p b' b mb e hp)), h2.congr fun j => ?_⟩
        rw [upd_ne _ _ (fun e2 => hqp (snoc_inj e2).1)]
  · intro q b' e j
    by_cases hq : q = p ++ [k]
    · subst hq
      rw [upd_ne _ _ (snoc_ne _ j)]
      exact h.at_.out _ j hk
    · rw [upd_ne _ _ hq] at e
      by_cases hqp : q ++ [j] = p ++ [k]
      · have := (snoc_inj hqp).1
        subst this
        rw [hp] at e
        cases e
      · rw [upd_ne _ _ hqp]
        exact h.at_.leaf q b' e j
  · intro q j e
    by_cases hq : q = p ++ [k]
    · rw [hq, upd_at] at e
      cases e
    · rw [upd_ne _ _ hq] at e
      by_cases hqp : q ++ [j] = p ++ [k]
      · have := (snoc_inj hqp).1
        subst this
        rw [hp] at e
        cases e
      · rw [upd_ne _ _ hqp]
        exact h.at_.out q j e
  · intro q e
    by_cases hq : q = p ++ [k]
    · rw [hq, upd_at] at e
      cases e
    · rw [upd_ne _ _ hq] at e
      exact h.at_.off q e
  · intro q q' b' om om' e e'
    by_cases hq : q = p ++ [k] <;> by_cases hq' : q' = p ++ [k]
    · rw [hq, hq']
    · rw [hq, upd_at] at e
      rw [upd_ne _ _ hq'] at e'
      cases e
      have := hlt _ _ _ e'
      omega
    · rw [hq', upd_at] at e'
      rw [upd_ne _ _ hq] at e
      cases e'
      have := hlt _ _ _ e
      omega
    · rw [upd_ne _ _ hq] at e
      rw [upd_ne _ _ hq'] at e'
      exact h.inj q q' b' om om' e e'
  · intro q q' b1 b2 mb' e e'
    by_cases hq : q = p ++ [k]
    · rw [hq, upd_at] at e
      cases e
    · by_cases hq' : q' = p ++ [k]
      · rw [hq', upd_at] at e'
        cases e'
      · rw [upd_ne _ _ hq] at e
        rw [upd_ne _ _ hq'] at e'
        exact h.injm q q' b1 b2 mb' e e'
  · intro q b' om e
    by_cases hq : q = p ++ [k]
    · rw [hq, upd_at] at e
      cases e
      exact ⟨hB, fun mb em => by cases em⟩
    · rw [upd_ne _ _ hq] at e
      exact h.lo q b' om e
/-- What ends at a node is told anew. -/
theorem Tree.rule (h : Tree B w a R E) {p : List ByteArray} {b : Nat} {om : Option Nat} (hp : a p = some (b, om)) (x y : Bool) :
    Tree B ((w.setCell ⟨b, 1, none⟩ (.bool x)).setCell ⟨b, 2, none⟩ (.bool y)) a (fun q => if q = p then x else R q) (fun q => if q = p then y else E q) := by
  refine ⟨⟨?_, ?_, h.at_.leaf, h.at_.out, ?_⟩, h.inj, h.injm, h.lo⟩
  · intro q b' om' e
    by_cases hq : q = p
    · subst hq
      rw [hp] at e
      cases e
      rw [if_pos rfl, if_pos rfl]
      exact ((h.at_.node q b om hp).set_ 1 _).set_ 2 _
    · rw [if_neg hq, if_neg hq]
      have hbb : b' ≠ b := fun eb => hq (h.inj q p b om' om (by rw [← eb]; exact e) hp)
      exact ((h.at_.node q b' om' e).far hbb _).far hbb _
  · intro q b' mb e
    obtain ⟨kvs, h1, h2⟩ := h.at_.kids q b' mb e
    have hne := h1.ne_blk (h.at_.node p b om hp)
    exact ⟨kvs, (h1.far hne _).far hne _, h2⟩
  · intro q e
    have hq : q ≠ p := fun e2 => by rw [e2, hp] at e; cases e
    rw [if_neg hq, if_neg hq]
    exact h.at_.off q e
end
theorem walk_all {a : Addrs} {R E : List ByteArray → Bool} : ∀ (ls : List ByteArray) (w : World) (p : List ByteArray) (A : Option Addr) (c d : Nat), TrieAt w a R E → RowAt strC 1 w A ls → ls.length ≤ c → c ≤ maxLen → d + ls.length ≤ 1000 →
    Calls Tryd.prog 75 #[ptrAt a p, .slice A ls.length c, .int .i64 d] w fun e w' => e = .returned (.agg #[.int .i64 (best R ls p d), .int .i64 (best E ls p d)]) ∧ Below w.heap.size w w'
  | [], w, p, A, c, d, h, _, _, _, _ => walk_end h p A c d
  | s :: ls, w, p, A, c, d, h, hr, hc, hcm, hd => walk_cons s ls (fun w p A c d h1 h2 h3 h4 h5 => walk_all ls w p A c d h1 h2 h3 h4 h5) w p A c d h hr hc hcm hd
end Go.Proofs.YtgljkgkmbfhgiaaDoor
