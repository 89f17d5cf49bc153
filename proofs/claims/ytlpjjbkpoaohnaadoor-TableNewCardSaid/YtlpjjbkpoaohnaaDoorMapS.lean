/- Maps whose entries' stamps are known to be old (MapS): 'm[k] = v' in two operations (mapEntry, entryStore), at a key that is not there; the operations as steps of a drawn region. -/
import Derived.Test.YtlpjjbkpoaohnaaDoorBase
import Derived.Deep.RegionHeld3
set_option linter.unusedVariables false
set_option linter.unusedSimpArgs false
namespace Go.Proofs.YtlpjjbkpoaohnaaDoor
open Go.RowKit

def MapS {κ : Type} (kf : κ → Value) (w : World) (b : Nat) (kvs : List (κ × Value)) : Prop :=
  ∃ es clock, w.heap[b]? = some (.map es clock) ∧ es.toList.map (fun e => (e.key, e.val)) = kvs.map (fun p => (kf p.1, p.2)) ∧ ∀ e ∈ es.toList, e.born < clock
/-- Block b is a map with an entry for k, just laid, of stamp st. -/
def MapE {κ : Type} (kf : κ → Value) (w : World) (b : Nat) (kvs : List (κ × Value)) (k : κ) (st : Nat) : Prop :=
  ∃ (es : Array MapEntry) (z : Value), w.heap[b]? = some (.map (es.push ⟨kf k, z, st⟩) (st + 1)) ∧ es.toList.map (fun e => (e.key, e.val)) = kvs.map (fun p => (kf p.1, p.2)) ∧ ∀ e ∈ es.toList, e.born < st
section
variable {κ : Type} {kf : κ → Value} {w w' : World} {b : Nat} {kvs : List (κ × Value)}
theorem MapS.k (h : MapS kf w b kvs) : MapK kf w b kvs := by obtain ⟨es, c, h1, h2, _⟩ := h; exact ⟨es, c, h1, h2⟩
theorem MapS.new (kf : κ → Value) (w : World) : MapS kf (w.alloc (.map #[] 0)) w.heap.size [] := ⟨#[], 0, heap_alloc_new w _, by simp, by simp⟩
theorem MapS.at_ (h : MapS kf w b kvs) (he : w'.heap[b]? = w.heap[b]?) : MapS kf w' b kvs := by
  obtain ⟨es, clock, hb, h⟩ := h
  exact ⟨es, clock, he.trans hb, h⟩
theorem MapS.lt (h : MapS kf w b kvs) : b < w.heap.size := h.k.lt
theorem MapS.keep (h : MapS kf w b kvs) (hb : Below w.heap.size w w') : MapS kf w' b kvs := h.at_ (hb.block b h.lt)
theorem MapS.grown {row : Option Nat} (h : MapS kf w b kvs) (hb : w.grownBy w' row) (hn : some b ≠ row) : MapS kf w' b kvs := h.at_ (hb.block b h.lt hn)
theorem MapS.fr {fp : Nat → Prop} (h : MapS kf w b kvs) (hb : Fr w w' fp) (hn : ¬ fp b) : MapS kf w' b kvs := h.at_ (hb.block b h.lt hn)
theorem MapE.at_ {k : κ} {st : Nat} (h : MapE kf w b kvs k st) (he : w'.heap[b]? = w.heap[b]?) : MapE kf w' b kvs k st := by
  obtain ⟨es, z, hb, h⟩ := h
  exact ⟨es, z, he.trans hb, h⟩
end

section
variable {κ : Type} [DecidableEq κ] {kf : κ → Value} {d : TypeDesc} [KeyKind kf d] {P : Program} {w : World} {b : Nat} {kvs : List (κ × Value)}
theorem putK_new (k : κ) (v : Value) : ∀ kvs : List (κ × Value), lookK k kvs = none → putK k v kvs = kvs ++ [(k, v)]
  | [], _ => rfl
  | (j, u) :: l, h => by
    by_cases e : k = j
    · subst e; simp [lookK] at h
    · simp only [lookK, if_neg e] at h
      simp only [putK, if_neg e, putK_new k v l h, List.cons_append]

theorem run_entryS {tm tk te : TypeId} (hm : P.underlying tm = some (.map tk te)) (hk : P.underlying tk = some d) {z : Value} (hz : (zeroValue te).run P w = .ok z w) (h : MapS kf w b kvs) (k : κ) (hn : lookK k kvs = none) :
    ∃ st w', (Instr.mapEntry tm (.map (some b)) (kf k)).run P w = .ok (.tuple #[z, goInt (st : Nat)]) w' ∧ MapE kf w' b kvs k st ∧ w.grownBy w' (some b) ∧ w'.heap.size = w.heap.size := by
  obtain ⟨es, clock, hb, he, hs⟩ := h
  have hlt : b < w.heap.size := (Array.getElem?_eq_some_iff.1 hb).1
  obtain ⟨r, h1, h2, h3, h4⟩ := findNow_map (kf := kf) (d := d) k es.toList kvs 0 he
  have hf := run_findKey (P := P) tk k es.toList r hk h1 w
  have hc := KeyKind.check (kf := kf) (d := d) P tk false k w hk
  have hg : (getObj b).run P w = .ok (.map es clock) w := by simp [getObj, Sem.run, hb]
  rw [hn] at h2
  obtain rfl : r = none := by simpa using h2
  have hset : ∀ o, (setObj b o).run P w = .ok () (setB w b o) := fun o => by simp [setObj, Sem.run, setB, hb]
  refine ⟨clock, setB w b (.map (es.push ⟨kf k, z, clock⟩) (clock + 1)), ?_, ⟨es, z, setB_at _ _ _ hlt, he, hs⟩, setB_grown _ _ _, by simp [setB]⟩
  simp [Instr.mapEntry, run_underlying hm, hg, hc, hf, hz, hset, Result.andThen]
theorem findIdx_snoc {p : MapEntry → Bool} : ∀ {l : List MapEntry} {a : MapEntry}, (∀ x ∈ l, p x = false) → p a = true → (l ++ [a]).findIdx? p = some l.length
  | [], a, _, h => by simp [List.findIdx?_cons, h]
  | x :: l, a, h, ha => by
    have := findIdx_snoc (l := l) (a := a) (fun y hy => h y (List.mem_cons_of_mem _ hy)) ha
    simp [List.findIdx?_cons, h x (List.mem_cons_self ..), this]
theorem modify_snoc {f : MapEntry → MapEntry} : ∀ (l : List MapEntry) (a : MapEntry), (l ++ [a]).modify l.length f = l ++ [f a]
  | [], a => rfl
  | x :: l, a => by simp [List.modify_succ_cons, modify_snoc l a]
omit [DecidableEq κ] in
theorem run_storeE (tm : TypeId) (k : κ) (st : Nat) (h : MapE kf w b kvs k st) (v : Value) :
    ∃ w', (Instr.entryStore tm (.map (some b)) (goInt (st : Nat)) v).run P w = .ok () w' ∧ MapS kf w' b (kvs ++ [(k, v)]) ∧ w.grownBy w' (some b) ∧ w'.heap.size = w.heap.size := by
  obtain ⟨es, z, hb, he, hs⟩ := h
  have hlt : b < w.heap.size := (Array.getElem?_eq_some_iff.1 hb).1
  have hg : (getObj b).run P w = .ok (.map (es.push ⟨kf k, z, st⟩) (st + 1)) w := by simp [getObj, Sem.run, hb]
  have hset : ∀ o, (setObj b o).run P w = .ok () (setB w b o) := fun o => by simp [setObj, Sem.run, setB, hb]
  have hidx : (es.push ⟨kf k, z, st⟩).findIdx? (fun e => ((e.born : Nat) : Int) == ((st : Nat) : Int)) = some es.size := by
    have : (es.push ⟨kf k, z, st⟩).findIdx? (fun e => ((e.born : Nat) : Int) == ((st : Nat) : Int)) = (es.push ⟨kf k, z, st⟩).toList.findIdx? (fun e => ((e.born : Nat) : Int) == ((st : Nat) : Int)) := by
      cases es.push ⟨kf k, z, st⟩; simp
    rw [this, Array.toList_push, ← Array.length_toList]
    refine findIdx_snoc (fun x hx => ?_) (by simp)
    have := hs x hx
    simp only [beq_eq_false_iff_ne, ne_eq, Int.natCast_inj]
    omega
  have hmod : (es.push ⟨kf k, z, st⟩).modify es.size (fun e => { e with val := v }) = es.push ⟨kf k, v, st⟩ := by
    apply Array.ext'
    rw [Array.toList_modify, Array.toList_push, Array.toList_push, ← Array.length_toList, modify_snoc]
  refine ⟨setB w b (.map (es.push ⟨kf k, v, st⟩) (st + 1)), ?_, ⟨_, _, setB_at _ _ _ hlt, ?_, ?_⟩, setB_grown _ _ _, by simp [setB]⟩
  · simp [Instr.entryStore, hg, asInt, asIntOf, goInt, hidx, hmod, hset, Result.andThen]
  · simp [he]
  · intro e hm
    simp only [Array.toList_push, List.mem_append, List.mem_singleton] at hm
    rcases hm with hm | rfl
    · have := hs e hm; omega
    · exact Nat.lt_succ_self _
theorem run_delS {tm tk te ty : TypeId} (hm : P.underlying tm = some (.map tk te)) (hk : P.underlying tk = some d) (h : MapS kf w b kvs) (k : κ) :
    ∃ w', (Builtin.delete_ #[tm, tk] ty #[.map (some b), kf k]).run P w = .ok (.tuple #[]) w' ∧ MapS kf w' b (delK k kvs) ∧ w.grownBy w' (some b) ∧ w'.heap.size = w.heap.size := by
  obtain ⟨es, clock, hb, he, hss⟩ := h
  have hlt : b < w.heap.size := (Array.getElem?_eq_some_iff.1 hb).1
  obtain ⟨r, h1, _, h3, h4⟩ := findNow_map (kf := kf) (d := d) k es.toList kvs 0 he
  have hf := run_findKey (P := P) tk k es.toList r hk h1 w
  have hc := KeyKind.check (kf := kf) (d := d) P tk es.isEmpty k w hk
  have hg : (getObj b).run P w = .ok (.map es clock) w := by simp [getObj, Sem.run, hb]
  have hs : ∀ o, (setObj b o).run P w = .ok () (setB w b o) := fun o => by simp [setObj, Sem.run, setB, hb]
  cases r with
  | none =>
    refine ⟨setB w b (.map es clock), ?_, ⟨_, _, setB_at _ _ _ hlt, ?_, hss⟩, setB_grown _ _ _, by simp [setB]⟩
    · simp [Builtin.delete_, run_underlying hm, hg, hc, hf, hs]
    · rw [(h4 rfl).2, he]
  | some p =>
    obtain ⟨j, u⟩ := p
    obtain ⟨_, g2, _, _, g5⟩ := h3 j u rfl
    have hj : j < es.size := by simpa using g2
    refine ⟨setB w b (.map (es.eraseIdxIfInBounds j) clock), ?_, ⟨_, _, setB_at _ _ _ hlt, ?_, ?_⟩, setB_grown _ _ _, by simp [setB]⟩
    · simp [Builtin.delete_, run_underlying hm, hg, hc, hf, hs]
    · simp only [Array.eraseIdxIfInBounds, hj, dif_pos, Array.toList_eraseIdx]
      simpa using g5
    · intro e hm
      simp only [Array.eraseIdxIfInBounds, hj, dif_pos, Array.toList_eraseIdx] at hm
      exact hss e (List.mem_of_mem_eraseIdx hm)

/-! ### The operations as steps of a drawn region -/
variable {ops : Array Oper} {o : Oper} {a : Act} {Q : Exit → Act → World → Prop} {K : Act → World → Prop} {E : Prop}
theorem step_putK (hgd : o.guard = none) (m x v : Operand) (t : TypeId) (hop : o.op = Op.mapUpdate t m x v)
    {tk te : TypeId} (hm : P.underlying t = some (.map tk te)) (hk : P.underlying tk = some d) (b : Nat) (kvs : List (κ × Value)) (k : κ) (val : Value) (hme : a.eval m = .map (some b)) (hx : a.eval x = kf k) (hv : a.eval v = val) (h : MapK kf w b kvs)
    (hK : ∀ w', MapK kf w' b (putK k val kvs) → w.grownBy w' (some b) → w'.heap.size = w.heap.size → K (a.put o.dst undef) w') : if Region.wanted o (yielded ops a.tmps) = true then Oper.wp P o a w K Q else E := by
  rw [if_pos (by simp [Region.wanted, hgd])]
  obtain ⟨w', hrun, r1, r2, r3⟩ := run_putK (P := P) hm hk h k val
  unfold Oper.wp
  simp [execOp, hop, hme, hx, hv, hrun, Result.andThen]
  exact hK w' r1 r2 r3
theorem step_entryS (hgd : o.guard = none) (m x : Operand) (t : TypeId) (hop : o.op = Op.mapEntry t m x)
    {tk te : TypeId} (hm : P.underlying t = some (.map tk te)) (hk : P.underlying tk = some d) {z : Value} (hz : (zeroValue te).run P w = .ok z w) (b : Nat) (kvs : List (κ × Value)) (k : κ) (hme : a.eval m = .map (some b)) (hx : a.eval x = kf k) (h : MapS kf w b kvs) (hn : lookK k kvs = none)
    (hK : ∀ (st : Nat) w', MapE kf w' b kvs k st → w.grownBy w' (some b) → w'.heap.size = w.heap.size → K (a.put o.dst (.tuple #[z, .int .i64 (st : Nat)])) w') : if Region.wanted o (yielded ops a.tmps) = true then Oper.wp P o a w K Q else E := by
  rw [if_pos (by simp [Region.wanted, hgd])]
  obtain ⟨st, w', hrun, r1, r2, r3⟩ := run_entryS (P := P) hm hk hz h k hn
  unfold Oper.wp
  simp [execOp, hop, hme, hx, hrun, Result.andThen]
  exact hK st w' r1 r2 r3
omit [DecidableEq κ] in
theorem step_storeE (hgd : o.guard = none) (m s v : Operand) (t : TypeId) (hop : o.op = Op.entryStore t m s v)
    (b : Nat) (kvs : List (κ × Value)) (k : κ) (st : Nat) (val : Value) (hme : a.eval m = .map (some b)) (hx : a.eval s = .int .i64 (st : Nat)) (hv : a.eval v = val) (h : MapE kf w b kvs k st)
    (hK : ∀ w', MapS kf w' b (kvs ++ [(k, val)]) → w.grownBy w' (some b) → w'.heap.size = w.heap.size → K (a.put o.dst undef) w') : if Region.wanted o (yielded ops a.tmps) = true then Oper.wp P o a w K Q else E := by
  rw [if_pos (by simp [Region.wanted, hgd])]
  obtain ⟨w', hrun, r1, r2, r3⟩ := run_storeE (P := P) (kf := kf) t k st h val
  simp only [goInt] at hrun
  unfold Oper.wp
  simp [execOp, hop, hme, hx, hv, hrun, Result.andThen]
  exact hK w' r1 r2 r3
theorem step_delS (hgd : o.guard = none) (m x : Operand) (t tk : TypeId) (hop : o.op = Op.call { callee := Callee.builtin Builtin.delete, args := #[m, x], argTypes := #[t, tk] })
    {te : TypeId} (hm : P.underlying t = some (.map tk te)) (hk : P.underlying tk = some d) (b : Nat) (kvs : List (κ × Value)) (k : κ) (hme : a.eval m = .map (some b)) (hx : a.eval x = kf k) (h : MapS kf w b kvs)
    (hK : ∀ w', MapS kf w' b (delK k kvs) → w.grownBy w' (some b) → w'.heap.size = w.heap.size → K (a.put o.dst (.tuple #[])) w') : if Region.wanted o (yielded ops a.tmps) = true then Oper.wp P o a w K Q else E := by
  rw [if_pos (by simp [Region.wanted, hgd])]
  obtain ⟨w', hrun, r1, r2, r3⟩ := run_delS (P := P) (ty := o.type) hm hk h k
  unfold Oper.wp
  simp [execOp, hop, resolve, invoke, builtin, hme, hx, hrun, Result.andThen]
  exact hK _ r1 r2 r3
theorem step_delK (hgd : o.guard = none) (m x : Operand) (t tk : TypeId) (hop : o.op = Op.call { callee := Callee.builtin Builtin.delete, args := #[m, x], argTypes := #[t, tk] })
    {te : TypeId} (hm : P.underlying t = some (.map tk te)) (hk : P.underlying tk = some d) (b : Nat) (kvs : List (κ × Value)) (k : κ) (hme : a.eval m = .map (some b)) (hx : a.eval x = kf k) (h : MapK kf w b kvs)
    (hK : ∀ w', MapK kf w' b (delK k kvs) → w.grownBy w' (some b) → w'.heap.size = w.heap.size → K (a.put o.dst (.tuple #[])) w') : if Region.wanted o (yielded ops a.tmps) = true then Oper.wp P o a w K Q else E := by
  rw [if_pos (by simp [Region.wanted, hgd])]
  obtain ⟨w', hrun, r1, r2, r3⟩ := run_delK (P := P) (ty := o.type) hm hk h k
  unfold Oper.wp
  simp [execOp, hop, resolve, invoke, builtin, hme, hx, hrun, Result.andThen]
  exact hK _ r1 r2 r3
end
end Go.Proofs.YtlpjjbkpoaohnaaDoor
