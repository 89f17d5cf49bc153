/- Words of memory that the proofs of this seat share: what a call leaves alone (Fr), blocks that are known whole (Blk), maps by their entries in turn (MapK), rows of structs. -/
import Derived.WalkKit
import Derived.KernelRfl
import Derived.Lib.Hide
import Derived.Deep.AppendLies
import Derived.Maps.AppendAt
import Derived.Deep.Draws
namespace Go.Proofs.YtbeibfhnbnmocaaDoor
open Go.RowKit

/-! ### What is left alone -/
/-- w' is w with new blocks, and with other contents in blocks of fp alone. -/
structure Fr (w w' : World) (fp : Nat → Prop) : Prop where
  os : w'.os = w.os
  tape : w'.tape = w.tape
  output : w'.output = w.output
  size : w.heap.size ≤ w'.heap.size
  block : ∀ i, i < w.heap.size → ¬ fp i → w'.heap[i]? = w.heap[i]?

section
variable {w w' w'' : World} {fp fp' : Nat → Prop}
theorem Fr.refl (w : World) (fp : Nat → Prop) : Fr w w fp := ⟨rfl, rfl, rfl, Nat.le_refl _, fun _ _ _ => rfl⟩
theorem Fr.trans (h : Fr w w' fp) (k : Fr w' w'' fp') (hf : ∀ i, fp' i → fp i ∨ w.heap.size ≤ i) : Fr w w'' fp :=
  ⟨k.os.trans h.os, k.tape.trans h.tape, k.output.trans h.output, Nat.le_trans h.size k.size, fun i hi hn =>
    (k.block i (Nat.lt_of_lt_of_le hi h.size) (fun hp => (hf i hp).elim hn (fun hle => absurd hi (by omega)))).trans (h.block i hi hn)⟩
theorem Fr.mono (h : Fr w w' fp) (hf : ∀ i, fp i → fp' i) : Fr w w' fp' := ⟨h.os, h.tape, h.output, h.size, fun i hi hn => h.block i hi fun hp => hn (hf i hp)⟩
theorem Fr.drew (h : Fr w w' fp) : Fr w w'.drew fp := ⟨h.os, h.tape, h.output, h.size, h.block⟩
theorem Fr.drewN (h : Fr w w' fp) (n : Nat) : Fr w (w'.drewN n) fp := ⟨h.os, h.tape, h.output, h.size, h.block⟩
theorem Fr.alloc (h : Fr w w' fp) (o : Obj) : Fr w (w'.alloc o) fp :=
  ⟨h.os, h.tape, h.output, Nat.le_trans h.size (by simp), fun i hi hn => (Below.heap_alloc w' o i (Nat.lt_of_lt_of_le hi h.size)).trans (h.block i hi hn)⟩
theorem Fr.setCell (h : Fr w w' fp) {p : Addr} (hp : fp p.block ∨ w.heap.size ≤ p.block) (u : Value) : Fr w (w'.setCell p u) fp :=
  ⟨h.os, h.tape, h.output, by simpa [World.setCell] using h.size, fun i hi hn =>
    (Below.heap_setCell w' p u i (fun e => by subst e; exact hp.elim hn (fun hle => absurd hi (by omega)))).trans (h.block i hi hn)⟩
theorem Fr.grown (h : Fr w w' fp) {row : Option Nat} (hg : w'.grownBy w'' row) (hr : ∀ k, row = some k → fp k ∨ w.heap.size ≤ k) : Fr w w'' fp :=
  ⟨hg.os.trans h.os, hg.tape.trans h.tape, hg.output.trans h.output, Nat.le_trans h.size hg.size, fun i hi hn =>
    (hg.block i (Nat.lt_of_lt_of_le hi h.size) (fun e => (hr i e.symm).elim hn (fun hle => absurd hi (by omega)))).trans (h.block i hi hn)⟩
theorem Fr.of_below (h : Below w.heap.size w w') (fp : Nat → Prop) : Fr w w' fp := ⟨h.os, h.tape, h.output, h.size, fun i hi _ => h.block i hi⟩
theorem Fr.below (h : Fr w w' fp) {B : Nat} (hB : B ≤ w.heap.size) (hf : ∀ i, fp i → B ≤ i) : Below B w w' :=
  ⟨h.os, h.tape, h.output, h.size, fun i hi => h.block i (Nat.lt_of_lt_of_le hi hB) fun hp => absurd hi (by have := hf i hp; omega)⟩
theorem Fr.at_ (h : Fr w w' fp) {g : Nat} {o : Obj} (hg : w.heap[g]? = some o) (hn : ¬ fp g) : w'.heap[g]? = some o :=
  (h.block g (Array.getElem?_eq_some_iff.1 hg).1 hn).trans hg
end

/-- Below, one step more: w1 lies behind w, w2 behind w1. -/
theorem belowOn {B : Nat} {w w1 w2 : World} (h : Below B w w1) (hB : B ≤ w1.heap.size) (k : Below w1.heap.size w1 w2) : Below B w w2 :=
  h.trans ⟨k.os, k.tape, k.output, k.size, fun i hi => k.block i (Nat.lt_of_lt_of_le hi hB)⟩

theorem below_drewN (w : World) (n : Nat) : Below w.heap.size w (w.drewN n) := ⟨rfl, rfl, rfl, Nat.le_refl _, fun _ _ => rfl⟩
theorem _root_.Go.RowKit.Below.drewN {B : Nat} {a w : World} (h : Below B a w) (n : Nat) : Below B a (w.drewN n) := ⟨h.os, h.tape, h.output, h.size, h.block⟩

/-! ### A block that is known whole -/
def Blk (w : World) (g : Nat) (t : TypeId) (cs : Array Value) : Prop := w.heap[g]? = some (.cells cs t (0, 0))

section
variable {w w' : World} {g : Nat} {t : TypeId} {cs : Array Value}
theorem Blk.lt (h : Blk w g t cs) : g < w.heap.size := (Array.getElem?_eq_some_iff.1 h).1
theorem Blk.cell (h : Blk w g t cs) (i : Nat) : w.cell? ⟨g, i, none⟩ = cs[i]? := cell_of_row w g i cs t (0, 0) h
theorem Blk.frozen (h : Blk w g t cs) (i : Nat) : w.frozen? ⟨g, i, none⟩ = false := by
  unfold Blk at h
  simp [World.frozen?, h]
theorem Blk.new (w : World) (t : TypeId) (cs : Array Value) : Blk (w.alloc (.cells cs t)) w.heap.size t cs := heap_alloc_new w _
theorem Blk.drewN (h : Blk w g t cs) (n : Nat) : Blk (w.drewN n) g t cs := h
theorem Blk.drew (h : Blk w g t cs) : Blk w.drew g t cs := h
theorem Blk.alloc (h : Blk w g t cs) (o : Obj) : Blk (w.alloc o) g t cs := (Below.heap_alloc w o g h.lt).trans h
theorem Blk.set_ (h : Blk w g t cs) (i : Nat) (u : Value) : Blk (w.setCell ⟨g, i, none⟩ u) g t (cs.setIfInBounds i u) := by
  unfold Blk at h ⊢
  simp [World.setCell, Array.getElem?_modify, h]
theorem Blk.far (h : Blk w g t cs) {p : Addr} (hp : g ≠ p.block) (u : Value) : Blk (w.setCell p u) g t cs := (Below.heap_setCell w p u g hp).trans h
theorem Blk.below (h : Blk w g t cs) {B : Nat} (hb : Below B w w') (hg : g < B) : Blk w' g t cs := (hb.block g hg).trans h
theorem Blk.keep (h : Blk w g t cs) (hb : Below w.heap.size w w') : Blk w' g t cs := (hb.block g h.lt).trans h
theorem Blk.fr {fp : Nat → Prop} (h : Blk w g t cs) (hb : Fr w w' fp) (hg : ¬ fp g) : Blk w' g t cs := hb.at_ h hg
theorem Blk.grown {row : Option Nat} (h : Blk w g t cs) (hb : w.grownBy w' row) (hg : some g ≠ row) : Blk w' g t cs := (hb.block g h.lt hg).trans h
theorem Blk.ne_ {g' : Nat} {t' : TypeId} {cs' : Array Value} (h : Blk w g t cs) (h' : Blk w g' t' cs') (hne : t ≠ t') : g ≠ g' := by
  rintro rfl
  unfold Blk at h h'
  rw [h] at h'
  injection h' with h'
  injection h' with _ ht
  exact hne ht
end

/-- A new block's cells. -/
theorem cells_new (W : World) (cs : Array Value) (t : TypeId) : ∀ j u, cs.toList[j]? = some u → (W.alloc (.cells cs t)).cell? ((⟨W.heap.size, 0, none⟩ : Addr).add j) = some u := by
  intro j u h
  have e : ((⟨W.heap.size, 0, none⟩ : Addr).add j) = ⟨W.heap.size, j, none⟩ := by unfold Addr.add; split <;> simp_all
  rw [e, (Blk.new W t cs).cell, ← Array.getElem?_toList, h]

/-! ### Maps: the entries in the turn in which they came -/
/-- Block b is a map whose entries are these, the keys told by kf. -/
def MapK {κ : Type} (kf : κ → Value) (w : World) (b : Nat) (kvs : List (κ × Value)) : Prop :=
  ∃ es clock, w.heap[b]? = some (.map es clock) ∧ es.toList.map (fun e => (e.key, e.val)) = kvs.map fun p => (kf p.1, p.2)

section
variable {κ : Type} [DecidableEq κ]
def lookK (k : κ) : List (κ × Value) → Option Value
  | [] => none
  | (j, v) :: l => if k = j then some v else lookK k l
def putK (k : κ) (v : Value) : List (κ × Value) → List (κ × Value)
  | [] => [(k, v)]
  | (j, u) :: l => if k = j then (k, v) :: l else (j, u) :: putK k v l
def delK (k : κ) : List (κ × Value) → List (κ × Value)
  | [] => []
  | (j, u) :: l => if k = j then l else (j, u) :: delK k l
end
theorem bytes_beq (a b : ByteArray) : (a == b) = decide (a = b) := by
  cases a with | mk a => cases b with | mk b =>
  show (a == b) = _
  by_cases h : a = b
  · subst h; simp
  · simp [h]

theorem str_beq (a b : ByteArray) : (a.toList == b.toList) = decide (a = b) := by rw [← beq_toListBytes, bytes_beq]
theorem str_beq_true {a b : ByteArray} (h : a = b) : (a.toList == b.toList) = true := by rw [str_beq]; simpa using h
theorem str_beq_false {a b : ByteArray} (h : a ≠ b) : (a.toList == b.toList) = false := by rw [str_beq]; simpa using h

/-- The runs of the model's look for a key, for keys that are strings or whole numbers. -/
class KeyKind {κ : Type} [DecidableEq κ] (kf : κ → Value) (d : TypeDesc) : Prop where
  same : ∀ a b : κ, Instr.sameNow d (kf a) (kf b) = some (decide (a = b))
  bits : ∀ a : κ, Instr.sameBits 10000 (kf a) (kf a) = true
  check : ∀ (P : Program) (t : TypeId) (e : Bool) (a : κ) (w : World), P.underlying t = some d → (Instr.checkKey e 10000 t (kf a)).run P w = .ok () w

instance : KeyKind (κ := ByteArray) Value.string .string where
  same a b := by simp [Instr.sameNow, bytes_beq]
  bits a := by simp [Instr.sameBits, bytes_beq]
  check P t e a w h := by
    have hn : ∀ n, (Instr.checkKey e (n + 1) t (.string a)).run P w = .ok () w := fun n => by rw [Instr.checkKey]; simp [run_underlying h]
    exact hn 9999

instance : KeyKind (κ := Int) (Value.int .i64) (.int .i64) where
  same a b := by
    by_cases h : a = b
    · subst h; simp [Instr.sameNow]
    · simp [Instr.sameNow, h]
  bits a := by simp [Instr.sameBits]
  check P t e a w h := by
    have hn : ∀ n, (Instr.checkKey e (n + 1) t (.int .i64 a)).run P w = .ok () w := fun n => by rw [Instr.checkKey]; simp [run_underlying h]
    exact hn 9999

section
variable {κ : Type} [DecidableEq κ] {kf : κ → Value} {d : TypeDesc} [KeyKind kf d] {P : Program} {w : World} {b : Nat} {kvs : List (κ × Value)}

theorem findNow_map (k : κ) : ∀ (es : List MapEntry) (kvs : List (κ × Value)) (i : Nat), es.map (fun e => (e.key, e.val)) = kvs.map (fun p => (kf p.1, p.2)) →
    ∃ r, Instr.findNow d (kf k) es i = some r ∧ r.map (·.2) = lookK k kvs ∧
      (∀ j v, r = some (j, v) → i ≤ j ∧ j - i < es.length ∧ (∃ e, es[j - i]? = some e ∧ e.key = kf k) ∧
        (∀ (f : MapEntry → MapEntry) u, (∀ e, (f e).key = kf k ∧ (f e).val = u) → (es.modify (j - i) f).map (fun e => (e.key, e.val)) = (putK k u kvs).map (fun p => (kf p.1, p.2))) ∧
        (es.eraseIdx (j - i)).map (fun e => (e.key, e.val)) = (delK k kvs).map (fun p => (kf p.1, p.2))) ∧
      (r = none → (∀ u, kvs ++ [(k, u)] = putK k u kvs) ∧ delK k kvs = kvs)
  | [], [], i, _ => ⟨none, by simp [Instr.findNow], rfl, by simp, by simp [putK, delK]⟩
  | [], _ :: _, _, h => by simp at h
  | _ :: _, [], _, h => by simp at h
  | e :: es, (j0, v0) :: kvs, i, h => by
    simp only [List.map_cons, List.cons.injEq, Prod.mk.injEq] at h
    obtain ⟨⟨hk, hv⟩, ht⟩ := h
    have hs := KeyKind.same (kf := kf) (d := d) k j0
    by_cases hkj : k = j0
    · subst hkj
      refine ⟨some (i, e.val), ?_, ?_, ?_, by simp⟩
      · simp [Instr.findNow, hk, hs]
      · simp [lookK, hv]
      · intro j v hj
        simp only [Option.some.injEq, Prod.mk.injEq] at hj
        obtain ⟨rfl, rfl⟩ := hj
        refine ⟨Nat.le_refl _, by simp, ⟨e, by simp, hk⟩, ?_, ?_⟩
        · intro f u hf
          simp [putK, hf e, ht, List.modify]
        · simp [delK, ht]
    · obtain ⟨r, h1, h2, h3, h4⟩ := findNow_map k es kvs (i + 1) ht
      have hd : decide (k = j0) = false := by simpa using hkj
      refine ⟨r, ?_, ?_, ?_, ?_⟩
      · simp only [Instr.findNow, hk, hs, hd]; exact h1
      · simpa [lookK, hkj] using h2
      · intro j v hj
        obtain ⟨g1, g2, ⟨e', g3, g3'⟩, g4, g5⟩ := h3 j v hj
        have hji : j - i = (j - (i + 1)) + 1 := by omega
        rw [hji]
        refine ⟨by omega, by simp; omega, ⟨e', by simpa using g3, g3'⟩, ?_, ?_⟩
        · intro f u hf
          simp [putK, hkj, hk, hv, g4 f u hf]
        · simp [delK, hkj, hk, hv, g5]
      · intro hr
        obtain ⟨g1, g2⟩ := h4 hr
        exact ⟨fun u => by simp [putK, hkj, ← g1 u], by simp [delK, hkj, g2]⟩

omit [DecidableEq κ] [KeyKind kf d] in
theorem run_findKey (t : TypeId) (k : κ) (es : List MapEntry) (r : Option (Nat × Value)) (ht : P.underlying t = some d) (h : Instr.findNow d (kf k) es 0 = some r) (w : World) : (Instr.findKey t (kf k) es).run P w = .ok r w := by
  simp [Instr.findKey, run_underlying ht, h]

theorem run_lookK {tm tk te : TypeId} (c : Bool) (hm : P.underlying tm = some (.map tk te)) (hk : P.underlying tk = some d) {z : Value} (hz : (zeroValue te).run P w = .ok z w) (h : MapK kf w b kvs) (k : κ) :
    (Instr.lookup tm (.map (some b)) (kf k) c).run P w = .ok (if c then .tuple #[(lookK k kvs).getD z, .bool (lookK k kvs).isSome] else (lookK k kvs).getD z) w := by
  obtain ⟨es, clock, hb, he⟩ := h
  obtain ⟨r, h1, h2, _, _⟩ := findNow_map (kf := kf) (d := d) k es.toList kvs 0 he
  have hf := run_findKey (P := P) tk k es.toList r hk h1 w
  have hc := KeyKind.check (kf := kf) (d := d) P tk es.isEmpty k w hk
  have hg : (getObj b).run P w = .ok (.map es clock) w := by simp [getObj, Sem.run, hb]
  cases r with
  | none =>
    have hl : lookK k kvs = none := by simpa using h2.symm
    cases c <;> simp [Instr.lookup, run_underlying hm, hg, hc, hf, hz, hl]
  | some p =>
    have hl : lookK k kvs = some p.2 := by simpa using h2.symm
    cases c <;> simp [Instr.lookup, run_underlying hm, hg, hc, hf, hl]
/-- A block of its own is all that is written. -/
def setB (w : World) (b : Nat) (o : Obj) : World := { w with heap := w.heap.setIfInBounds b o }
omit [DecidableEq κ] in
theorem setB_at (w : World) (b : Nat) (o : Obj) (h : b < w.heap.size) : (setB w b o).heap[b]? = some o := by simp [setB, h]
theorem setB_grown (w : World) (b : Nat) (o : Obj) : w.grownBy (setB w b o) (some b) :=
  ⟨rfl, rfl, rfl, by simp [setB], fun i _ hi => by
    have : b ≠ i := fun e => hi (by rw [e])
    simp [setB, Array.getElem?_setIfInBounds_ne this]⟩

theorem run_putK {tm tk te : TypeId} (hm : P.underlying tm = some (.map tk te)) (hk : P.underlying tk = some d) (h : MapK kf w b kvs) (k : κ) (v : Value) :
    ∃ w', (Instr.mapUpdate tm (.map (some b)) (kf k) v).run P w = .ok () w' ∧ MapK kf w' b (putK k v kvs) ∧ w.grownBy w' (some b) ∧ w'.heap.size = w.heap.size := by
  obtain ⟨es, clock, hb, he⟩ := h
  have hlt : b < w.heap.size := (Array.getElem?_eq_some_iff.1 hb).1
  obtain ⟨r, h1, _, h3, h4⟩ := findNow_map (kf := kf) (d := d) k es.toList kvs 0 he
  have hf := run_findKey (P := P) tk k es.toList r hk h1 w
  have hc := KeyKind.check (kf := kf) (d := d) P tk false k w hk
  have hg : (getObj b).run P w = .ok (.map es clock) w := by simp [getObj, Sem.run, hb]
  have hs : ∀ o, (setObj b o).run P w = .ok () (setB w b o) := by intro o; simp [setObj, Sem.run, hb, setB]
  cases r with
  | none =>
    refine ⟨setB w b (.map (es.push { key := kf k, val := v, born := clock }) (clock + 1)), ?_, ⟨_, _, setB_at _ _ _ hlt, ?_⟩, setB_grown _ _ _, by simp [setB]⟩
    · simp [Instr.mapUpdate, run_underlying hm, hg, hc, hf, hs]
    · rw [← (h4 rfl).1 v]
      simp [he]
  | some p =>
    obtain ⟨j, u⟩ := p
    obtain ⟨_, _, ⟨e', g3, g3'⟩, g4, _⟩ := h3 j u rfl
    have hb' := KeyKind.bits (kf := kf) (d := d) k
    have hkey : ((es[j]?).map (·.key)).getD (kf k) = kf k := by
      have : es[j]? = some e' := by rw [← Array.getElem?_toList]; simpa using g3
      simp [this, g3']
    have hks : (Instr.keyThatStays (kf k) (kf k)).run P w = .ok (kf k) w := by simp [Instr.keyThatStays, hb']
    refine ⟨setB w b (.map (es.modify j fun e => { e with key := kf k, val := v }) clock), ?_, ⟨_, _, setB_at _ _ _ hlt, ?_⟩, setB_grown _ _ _, by simp [setB]⟩
    · simp only [Instr.mapUpdate, Sem.run_bind, run_underlying hm, Result.andThen_ok, hg, hc, hf, hkey, hks, hs]
    · have := g4 (fun e => { e with key := kf k, val := v }) v (fun _ => ⟨rfl, rfl⟩)
      simpa using this

theorem run_delK {tm tk te ty : TypeId} (hm : P.underlying tm = some (.map tk te)) (hk : P.underlying tk = some d) (h : MapK kf w b kvs) (k : κ) :
    ∃ w', (Builtin.delete_ #[tm, tk] ty #[.map (some b), kf k]).run P w = .ok (.tuple #[]) w' ∧ MapK kf w' b (delK k kvs) ∧ w.grownBy w' (some b) ∧ w'.heap.size = w.heap.size := by
  obtain ⟨es, clock, hb, he⟩ := h
  have hlt : b < w.heap.size := (Array.getElem?_eq_some_iff.1 hb).1
  obtain ⟨r, h1, _, h3, h4⟩ := findNow_map (kf := kf) (d := d) k es.toList kvs 0 he
  have hf := run_findKey (P := P) tk k es.toList r hk h1 w
  have hc := KeyKind.check (kf := kf) (d := d) P tk es.isEmpty k w hk
  have hg : (getObj b).run P w = .ok (.map es clock) w := by simp [getObj, Sem.run, hb]
  have hs : ∀ o, (setObj b o).run P w = .ok () (setB w b o) := by intro o; simp [setObj, Sem.run, hb, setB]
  cases r with
  | none =>
    refine ⟨setB w b (.map es clock), ?_, ⟨_, _, setB_at _ _ _ hlt, ?_⟩, setB_grown _ _ _, by simp [setB]⟩
    · simp [Builtin.delete_, run_underlying hm, hg, hc, hf, hs]
    · rw [(h4 rfl).2, he]
  | some p =>
    obtain ⟨j, u⟩ := p
    obtain ⟨_, g2, _, _, g5⟩ := h3 j u rfl
    refine ⟨setB w b (.map (es.eraseIdxIfInBounds j) clock), ?_, ⟨_, _, setB_at _ _ _ hlt, ?_⟩, setB_grown _ _ _, by simp [setB]⟩
    · simp [Builtin.delete_, run_underlying hm, hg, hc, hf, hs]
    · have hj : j < es.size := by simpa using g2
      simp only [Array.eraseIdxIfInBounds, hj, dif_pos, Array.toList_eraseIdx]
      simpa using g5

omit [DecidableEq κ] in
theorem run_lenK {tm tk te ty : TypeId} (hm : P.underlying tm = some (.map tk te)) (h : MapK kf w b kvs) : (Builtin.len_ #[tm] ty #[.map (some b)]).run P w = .ok (.int .i64 kvs.length) w := by
  obtain ⟨es, clock, hb, he⟩ := h
  have hg : (getObj b).run P w = .ok (.map es clock) w := by simp [getObj, Sem.run, hb]
  have hl : es.size = kvs.length := by have := congrArg List.length he; simpa using this
  simp [Builtin.len_, run_underlying hm, hg, goInt, hl]

theorem run_lookNil {tm tk te : TypeId} (c : Bool) (hm : P.underlying tm = some (.map tk te)) (hk : P.underlying tk = some d) {z : Value} (hz : (zeroValue te).run P w = .ok z w) (k : κ) :
    (Instr.lookup tm (.map none) (kf k) c).run P w = .ok (if c then .tuple #[z, .bool false] else z) w := by
  have hc := KeyKind.check (kf := kf) (d := d) P tk true k w hk
  have hf := run_findKey (P := P) (d := d) (kf := kf) tk k [] none hk (by simp [Instr.findNow]) w
  cases c <;> simp [Instr.lookup, run_underlying hm, hc, hf, hz]

omit [DecidableEq κ] in
theorem MapK.new (kf : κ → Value) (w : World) : MapK kf (w.alloc (.map #[] 0)) w.heap.size [] := ⟨#[], 0, heap_alloc_new w _, by simp⟩
omit [DecidableEq κ] in
theorem MapK.at_ {w' : World} (h : MapK kf w b kvs) (he : w'.heap[b]? = w.heap[b]?) : MapK kf w' b kvs := by
  obtain ⟨es, clock, hb, h⟩ := h
  exact ⟨es, clock, he.trans hb, h⟩
omit [DecidableEq κ] in
theorem MapK.lt (h : MapK kf w b kvs) : b < w.heap.size := by
  obtain ⟨es, clock, hb, h⟩ := h
  exact (Array.getElem?_eq_some_iff.1 hb).1
omit [DecidableEq κ] in
theorem MapK.keep {w' : World} (h : MapK kf w b kvs) (hb : Below w.heap.size w w') : MapK kf w' b kvs := h.at_ (hb.block b h.lt)
omit [DecidableEq κ] in
theorem MapK.fr {w' : World} {fp : Nat → Prop} (h : MapK kf w b kvs) (hb : Fr w w' fp) (hn : ¬ fp b) : MapK kf w' b kvs := h.at_ (hb.block b h.lt hn)
omit [DecidableEq κ] in
theorem MapK.grown {w' : World} {row : Option Nat} (h : MapK kf w b kvs) (hb : w.grownBy w' row) (hn : some b ≠ row) : MapK kf w' b kvs := h.at_ (hb.block b h.lt hn)
omit [DecidableEq κ] in
theorem MapK.far {w : World} (h : MapK kf w b kvs) {p : Addr} (hp : b ≠ p.block) (u : Value) : MapK kf (w.setCell p u) b kvs := h.at_ (Below.heap_setCell w p u b hp)
omit [DecidableEq κ] in
theorem MapK.alloc {w : World} (h : MapK kf w b kvs) (o : Obj) : MapK kf (w.alloc o) b kvs := h.at_ (Below.heap_alloc w o b h.lt)
omit [DecidableEq κ] in
theorem MapK.drewN {w : World} (h : MapK kf w b kvs) (n : Nat) : MapK kf (w.drewN n) b kvs := h.at_ rfl
omit [DecidableEq κ] in
theorem MapK.drew {w : World} (h : MapK kf w b kvs) : MapK kf w.drew b kvs := h.at_ rfl
omit [DecidableEq κ] in
theorem MapK.ne_blk {w : World} (h : MapK kf w b kvs) {g : Nat} {t : TypeId} {cs : Array Value} (hg : Blk w g t cs) : b ≠ g := by
  rintro rfl
  obtain ⟨es, clock, hb, _⟩ := h
  unfold Blk at hg
  rw [hb] at hg
  injection hg with hg
  cases hg

/-- 'm[k] = v' at the operation, for the walk. -/
theorem wpList_putK {ops : Array Oper} {rest : List Oper} {o : Oper} {a : Act} {Q : Exit → Act → World → Prop} (hgd : o.guard = none) (m x v : Operand) (t : TypeId) (hop : o.op = Op.mapUpdate t m x v)
    {tk te : TypeId} (hm : P.underlying t = some (.map tk te)) (hk : P.underlying tk = some d) (b : Nat) (kvs : List (κ × Value)) (k : κ) (val : Value) (hme : a.eval m = .map (some b)) (hx : a.eval x = kf k) (hv : a.eval v = val) (h : MapK kf w b kvs)
    (hK : ∀ w', MapK kf w' b (putK k val kvs) → w.grownBy w' (some b) → w'.heap.size = w.heap.size → wpList P ops Q rest (a.put o.dst undef) w') : wpList P ops Q (o :: rest) a w := by
  refine wpList_plain hgd fun K' hK' => ?_
  obtain ⟨w', hrun, r1, r2, r3⟩ := run_putK (P := P) hm hk h k val
  unfold Oper.wp
  simp [execOp, hop, hme, hx, hv, hrun, Result.andThen]
  exact hK' _ _ (hK w' r1 r2 r3)

theorem wpList_delK {ops : Array Oper} {rest : List Oper} {o : Oper} {a : Act} {Q : Exit → Act → World → Prop} (hgd : o.guard = none) (m x : Operand) (t tk : TypeId) (hop : o.op = Op.call { callee := Callee.builtin Builtin.delete, args := #[m, x], argTypes := #[t, tk] })
    {te : TypeId} (hm : P.underlying t = some (.map tk te)) (hk : P.underlying tk = some d) (b : Nat) (kvs : List (κ × Value)) (k : κ) (hme : a.eval m = .map (some b)) (hx : a.eval x = kf k) (h : MapK kf w b kvs)
    (hK : ∀ w', MapK kf w' b (delK k kvs) → w.grownBy w' (some b) → w'.heap.size = w.heap.size → wpList P ops Q rest (a.put o.dst (.tuple #[])) w') : wpList P ops Q (o :: rest) a w := by
  refine wpList_plain hgd fun K' hK' => ?_
  obtain ⟨w', hrun, r1, r2, r3⟩ := run_delK (P := P) (ty := o.type) hm hk h k
  unfold Oper.wp
  simp [execOp, hop, resolve, invoke, builtin, hme, hx, hrun, Result.andThen]
  exact hK' _ _ (hK w' r1 r2 r3)
end
/-! ### What a map says, key by key -/
section
variable {κ : Type} [DecidableEq κ]
/-- The entries have each key once, and say f of it. -/
def Idx (kvs : List (κ × Value)) (f : κ → Option Value) : Prop := (kvs.map (·.1)).Nodup ∧ ∀ k, lookK k kvs = f k

theorem lookK_none (k : κ) : ∀ kvs : List (κ × Value), k ∉ kvs.map (·.1) → lookK k kvs = none
  | [], _ => rfl
  | (j, u) :: l, h => by
    simp only [List.map_cons, List.mem_cons, not_or] at h
    simp only [lookK, if_neg h.1]
    exact lookK_none k l h.2
theorem mem_of_lookK {k : κ} {v : Value} : ∀ kvs : List (κ × Value), lookK k kvs = some v → (k, v) ∈ kvs
  | [], h => by simp [lookK] at h
  | (j, u) :: l, h => by
    by_cases e : k = j
    · subst e; simp [lookK] at h; simp [h]
    · simp only [lookK, if_neg e] at h; exact List.mem_cons_of_mem _ (mem_of_lookK l h)
theorem lookK_of_mem {k : κ} {v : Value} : ∀ kvs : List (κ × Value), (kvs.map (·.1)).Nodup → (k, v) ∈ kvs → lookK k kvs = some v
  | [], _, h => by simp at h
  | (j, u) :: l, hn, h => by
    simp only [List.map_cons, List.nodup_cons] at hn
    by_cases e : k = j
    · subst e
      simp only [List.mem_cons, Prod.mk.injEq, true_and] at h
      rcases h with h | h
      · simp [lookK, h]
      · exact absurd (List.mem_map.2 ⟨_, h, rfl⟩) hn.1
    · simp only [List.mem_cons, Prod.mk.injEq, e, false_and, false_or] at h
      simp only [lookK, if_neg e]
      exact lookK_of_mem l hn.2 h
theorem lookK_put (k j : κ) (v : Value) : ∀ kvs : List (κ × Value), lookK j (putK k v kvs) = if j = k then some v else lookK j kvs
  | [] => by by_cases e : j = k <;> simp [putK, lookK, e]
  | (i, u) :: l => by
    by_cases e : k = i
    · subst e
      by_cases e' : j = k <;> simp [putK, lookK, e']
    · simp only [putK, if_neg e, lookK, lookK_put k j v l]
      by_cases e' : j = i
      · subst e'; simp [Ne.symm e]
      · simp [e']
theorem keys_put (k : κ) (v : Value) : ∀ kvs : List (κ × Value), (putK k v kvs).map (·.1) = if k ∈ kvs.map (·.1) then kvs.map (·.1) else kvs.map (·.1) ++ [k]
  | [] => by simp [putK]
  | (i, u) :: l => by
    by_cases e : k = i
    · subst e; simp [putK]
    · have := keys_put k v l
      by_cases h : k ∈ l.map (·.1)
      · rw [if_pos h] at this
        have h' : k ∈ ((i, u) :: l).map (·.1) := by simp only [List.map_cons, List.mem_cons]; exact .inr h
        rw [if_pos h']
        simp only [putK, if_neg e, List.map_cons, this]
      · rw [if_neg h] at this
        have h' : ¬ k ∈ ((i, u) :: l).map (·.1) := by simp only [List.map_cons, List.mem_cons, not_or]; exact ⟨e, h⟩
        rw [if_neg h']
        simp only [putK, if_neg e, List.map_cons, this, List.cons_append]
theorem keys_del (k : κ) : ∀ kvs : List (κ × Value), (delK k kvs).map (·.1) = (kvs.map (·.1)).erase k
  | [] => by simp [delK]
  | (i, u) :: l => by
    by_cases e : k = i
    · subst e; simp [delK]
    · have : (i == k) = false := by simpa using Ne.symm e
      simp [delK, e, keys_del k l, this]
theorem lookK_del (k j : κ) : ∀ kvs : List (κ × Value), (kvs.map (·.1)).Nodup → lookK j (delK k kvs) = if j = k then none else lookK j kvs
  | [], _ => by simp [delK, lookK]
  | (i, u) :: l, hn => by
    simp only [List.map_cons, List.nodup_cons] at hn
    by_cases e : k = i
    · subst e
      by_cases e' : j = k
      · subst e'; simp [delK, lookK_none _ _ hn.1]
      · simp [delK, lookK, e']
    · simp only [delK, if_neg e, lookK, lookK_del k j l hn.2]
      by_cases e' : j = i
      · subst e'; simp [Ne.symm e]
      · simp [e']
theorem Idx.put {kvs : List (κ × Value)} {f : κ → Option Value} (h : Idx kvs f) (k : κ) (v : Value) : Idx (putK k v kvs) (fun j => if j = k then some v else f j) := by
  refine ⟨?_, fun j => by rw [lookK_put, h.2]⟩
  rw [keys_put]
  split
  · exact h.1
  · rename_i hk
    rw [List.nodup_append]
    exact ⟨h.1, by simp, by intro a ha b hb; simp only [List.mem_singleton] at hb; subst hb; exact fun e => hk (e ▸ ha)⟩
theorem Idx.del {kvs : List (κ × Value)} {f : κ → Option Value} (h : Idx kvs f) (k : κ) : Idx (delK k kvs) (fun j => if j = k then none else f j) := by
  refine ⟨?_, fun j => by rw [lookK_del _ _ _ h.1, h.2]⟩
  rw [keys_del]
  exact h.1.erase k
theorem Idx.nil : Idx ([] : List (κ × Value)) (fun _ => none) := ⟨by simp, fun _ => rfl⟩
theorem Idx.congr {kvs : List (κ × Value)} {f g : κ → Option Value} (h : Idx kvs f) (e : ∀ k, f k = g k) : Idx kvs g := ⟨h.1, fun k => (h.2 k).trans (e k)⟩
end

/-! ### Rows of structs: their cells, one element behind the other -/
theorem flat_length {α : Type} {f : α → List Value} {sz : Nat} (hf : ∀ x, (f x).length = sz) (l : List α) : (l.flatMap f).length = l.length * sz := by
  induction l with
  | nil => simp
  | cons x l ih => simp [ih, hf x, Nat.add_mul]; omega
theorem flat_get {α : Type} {f : α → List Value} {sz : Nat} (hf : ∀ x, (f x).length = sz) : ∀ (l : List α) (i j : Nat) (p : α), l[i]? = some p → j < sz → (l.flatMap f)[i * sz + j]? = (f p)[j]?
  | [], i, j, p, h, _ => by simp at h
  | x :: l, 0, j, p, h, hj => by
    simp only [List.getElem?_cons_zero, Option.some.injEq] at h
    subst h
    rw [List.flatMap_cons, Nat.zero_mul, Nat.zero_add, List.getElem?_append_left (by rw [hf]; exact hj)]
  | x :: l, i + 1, j, p, h, hj => by
    simp only [List.getElem?_cons_succ] at h
    have e : (i + 1) * sz + j = (f x).length + (i * sz + j) := by rw [hf, Nat.succ_mul]; omega
    rw [List.flatMap_cons, e, List.getElem?_append_right (by omega), Nat.add_sub_cancel_left]
    exact flat_get hf l i j p h hj
theorem flat_set {α : Type} {f : α → List Value} {sz : Nat} (hf : ∀ x, (f x).length = sz) : ∀ (l : List α) (i j : Nat) (p q : α) (u : Value), l[i]? = some p → j < sz → f q = (f p).set j u → (l.flatMap f).set (i * sz + j) u = (l.set i q).flatMap f
  | [], i, j, p, q, u, h, _, _ => by simp at h
  | x :: l, 0, j, p, q, u, h, hj, hq => by
    simp only [List.getElem?_cons_zero, Option.some.injEq] at h
    subst h
    rw [List.flatMap_cons, Nat.zero_mul, Nat.zero_add, List.set_append_left _ _ (by rw [hf]; exact hj), List.set_cons_zero, List.flatMap_cons, hq]
  | x :: l, i + 1, j, p, q, u, h, hj, hq => by
    simp only [List.getElem?_cons_succ] at h
    have e : (i + 1) * sz + j = (f x).length + (i * sz + j) := by rw [hf, Nat.succ_mul]; omega
    rw [List.flatMap_cons, e, List.set_append_right _ _ (by omega), Nat.add_sub_cancel_left, List.set_cons_succ, List.flatMap_cons, flat_set hf l i j p q u h hj hq]

section
variable {w : World} {base : Nat} {e : TypeId} {sz : Nat} {v : Value} {n : Nat} {xs : List Value}
/-- A row that has elements lies at the begin of a block. -/
theorem row_form (h : w.ownsRow base e sz v n xs) (hn : 0 < n) : ∃ g cap cur, v = .slice (some ⟨g, 0, none⟩) n cap ∧ base ≤ g ∧ n ≤ cap ∧ cap ≤ maxLen ∧ w.heap[g]? = some (.cells cur e (0, 0)) ∧ (∀ j u, xs[j]? = some u → w.cell? ⟨g, j, none⟩ = some u) ∧ ∀ j, w.frozen? ⟨g, j, none⟩ = false := by
  rcases h.2 with ⟨_, h0⟩ | ⟨g, cap, cur, rfl, hb, hg, hnc, hm, hs, ht⟩
  · omega
  · refine ⟨g, cap, cur, rfl, hb, hnc, hm, hg, fun j u hu => ?_, fun j => by simp [World.frozen?, hg]⟩
    rw [cell_of_row w g j cur e (0, 0) hg]
    rw [← ht, List.getElem?_take] at hu
    split at hu
    · rw [← hu, Array.getElem?_toList]
    · cases hu
theorem row_set {g c cap : Nat} {u : Value} (h : w.ownsRow base e sz (.slice (some ⟨g, 0, none⟩) n cap) n xs) : (w.setCell ⟨g, c, none⟩ u).ownsRow base e sz (.slice (some ⟨g, 0, none⟩) n cap) n (xs.set c u) := by
  refine ⟨by simpa using h.1, ?_⟩
  rcases h.2 with ⟨h0, _⟩ | ⟨g', cap', cur, hv, hb, hg, hnc, hm, hs, ht⟩
  · cases h0
  · injection hv with hv1 _ hv2
    injection hv1 with hv1
    injection hv1 with hv1
    subst hv1 hv2
    refine .inr ⟨g, cap, cur.setIfInBounds c u, rfl, hb, ?_, hnc, hm, by simpa using hs, ?_⟩
    · simp [World.setCell, Array.getElem?_modify, hg]
    · rw [Array.toList_setIfInBounds, List.take_set, ht]
theorem row_slice (h : w.ownsRow base e sz v n xs) : ∃ A cap, v = .slice A n cap := by
  rcases h.2 with ⟨rfl, rfl⟩ | ⟨g, cap, cur, rfl, _⟩ <;> exact ⟨_, _, rfl⟩
theorem row_blk (h : w.ownsRow base e sz v n xs) {g : Nat} (hg : v.ownBlock = some g) : base ≤ g ∧ ∃ cur, Blk w g e cur := by
  rcases h.2 with ⟨rfl, _⟩ | ⟨g', cap, cur, rfl, hb, hh, _⟩
  · cases hg
  · obtain rfl : g' = g := by simpa [Value.ownBlock] using hg
    exact ⟨hb, cur, hh⟩
theorem row_keep {w' : World} (h : w.ownsRow base e sz v n xs) (hk : ∀ g, v.ownBlock = some g → w'.heap[g]? = w.heap[g]?) : w'.ownsRow base e sz v n xs := by
  refine ⟨h.1, ?_⟩
  rcases h.2 with h0 | ⟨g, cap, cur, rfl, hb, hg, rest⟩
  · exact .inl h0
  · exact .inr ⟨g, cap, cur, rfl, hb, (hk g rfl).trans hg, rest⟩
theorem row_below {w' : World} (h : w.ownsRow base e sz v n xs) (hb : Below w.heap.size w w') : w'.ownsRow base e sz v n xs :=
  row_keep h fun g hg => by obtain ⟨_, cur, hc⟩ := row_blk h hg; exact hb.block g hc.lt
theorem row_fr {w' : World} {fp : Nat → Prop} (h : w.ownsRow base e sz v n xs) (hb : Fr w w' fp) (hn : ∀ g, v.ownBlock = some g → ¬ fp g) : w'.ownsRow base e sz v n xs :=
  row_keep h fun g hg => by obtain ⟨_, cur, hc⟩ := row_blk h hg; exact hb.block g hc.lt (hn g hg)
theorem row_grown {w' : World} {row : Option Nat} (h : w.ownsRow base e sz v n xs) (hb : w.grownBy w' row) (hn : ∀ g, v.ownBlock = some g → some g ≠ row) : w'.ownsRow base e sz v n xs :=
  row_keep h fun g hg => by obtain ⟨_, cur, hc⟩ := row_blk h hg; exact hb.block g hc.lt (hn g hg)
theorem row_base {base' : Nat} (h : w.ownsRow base e sz v n xs) (hb : base' ≤ base) : w.ownsRow base' e sz v n xs := by
  refine ⟨h.1, ?_⟩
  rcases h.2 with h0 | ⟨g, cap, cur, rfl, hg, rest⟩
  · exact .inl h0
  · exact .inr ⟨g, cap, cur, rfl, by omega, rest⟩
end
end Go.Proofs.YtbeibfhnbnmocaaDoor
