/- Rows of any elements of plain cells: copied, pushed on. -/
import Derived.Test.YtgljkgkmbfhgiaaDoorRowI
import Derived.Test.YtgljkgkmbfhgiaaDoorOpen
set_option linter.unusedVariables false
set_option linter.unusedSimpArgs false
namespace Go.Proofs.YtgljkgkmbfhgiaaDoor
open Go.RowKit

/-- A row of the call's own, from block B on: element i's cells are f of it. -/
def OwnR {α : Type} (w : World) (B : Nat) (e : TypeId) (sz : Nat) (f : α → List Value) (v : Value) (l : List α) : Prop := w.ownsRow B e sz v l.length (l.flatMap f)
theorem flat_back {α : Type} {f : α → List Value} {sz : Nat} (hf : ∀ x, (f x).length = sz) (hz : 0 < sz) {l : List α} {j : Nat} {u : Value} (h : (l.flatMap f)[j]? = some u) : ∃ i k x, j = i * sz + k ∧ k < sz ∧ l[i]? = some x ∧ (f x)[k]? = some u := by
  have hj : j < l.length * sz := by rw [← flat_length hf]; exact (List.getElem?_eq_some_iff.1 h).1
  have hi : j / sz < l.length := (Nat.div_lt_iff_lt_mul hz).2 hj
  have hk := Nat.mod_lt j hz
  have e : j = j / sz * sz + j % sz := by have := Nat.div_add_mod j sz; rw [Nat.mul_comm] at this; exact this.symm
  refine ⟨j / sz, j % sz, l[j / sz], e, hk, List.getElem?_eq_getElem hi, ?_⟩
  rw [← flat_get hf l (j / sz) (j % sz) _ (List.getElem?_eq_getElem hi) hk, ← e]
  exact h
section
variable {α : Type} {e : TypeId} {sz B : Nat} {f : α → List Value} {w w' : World} {v : Value} {l : List α}
theorem OwnR.row (h : OwnR w B e sz f v l) (hf : ∀ x, (f x).length = sz) : ∃ A c, v = .slice A l.length c ∧ RowAt f sz w A l ∧ l.length ≤ c ∧ c ≤ maxLen ∧ (∀ b off, A = some ⟨b, off, none⟩ → B ≤ b ∧ v.ownBlock = some b ∧ off = 0) := by
  by_cases h0 : l = []
  · subst h0
    rcases h.2 with ⟨rfl, _⟩ | ⟨g, cap, cur, rfl, hb, _, hn, hm, _⟩
    · exact ⟨none, 0, rfl, fun i x hx => by simp at hx, Nat.le_refl _, Nat.zero_le _, fun b off e => by cases e⟩
    · exact ⟨_, cap, rfl, fun i x hx => by simp at hx, Nat.zero_le _, hm, fun b off e => by cases e; exact ⟨hb, rfl, rfl⟩⟩
  · have hp : 0 < l.length := List.length_pos_iff.2 h0
    obtain ⟨g, cap, cur, rfl, hb, hnc, hm, hg, hc, _⟩ := row_form h hp
    refine ⟨_, cap, rfl, fun i x hx => ⟨g, 0, rfl, fun j u hu => ?_⟩, hnc, hm, fun b off e => by cases e; exact ⟨hb, rfl, rfl⟩⟩
    have hj : j < sz := by rw [← hf x]; exact (List.getElem?_eq_some_iff.1 hu).1
    rw [Nat.zero_add]
    exact hc _ _ ((flat_get hf l i j x hx hj).trans hu)
theorem OwnR.below (h : OwnR w B e sz f v l) (hb : Below w.heap.size w w') : OwnR w' B e sz f v l := row_below h hb
theorem OwnR.nil (w : World) (B : Nat) (e : TypeId) (sz : Nat) (f : α → List Value) : OwnR w B e sz f (.slice none 0 0) [] := World.ownsRow_nil w B e sz
theorem OwnR.fresh (w : World) (B : Nat) (e : TypeId) (sz : Nat) (f : α → List Value) (hB : B ≤ w.heap.size) : OwnR (w.alloc (.cells #[] e)) B e sz f (.slice (some ⟨w.heap.size, 0, none⟩) 0 0) [] := by
  refine ⟨by simp, .inr ⟨w.heap.size, 0, #[], rfl, hB, Blk.new w e #[], Nat.le_refl _, by simp [maxLen], by simp, by simp⟩⟩
end
section
variable {P : Program} {w : World} {ops : Array Oper} {rest : List Oper} {o : Oper} {a : Act} {Q : Exit → Act → World → Prop}
/-- An append of a whole row, that may be nil, to a row of the call's own: as one run. -/
theorem run_append_rowR {α : Type} (f : α → List Value) (sz : Nat) (hf : ∀ x, (f x).length = sz) (hz0 : 0 < sz) (hone : ∀ x, ∀ u ∈ f x, u.oneCell' = true) (base : Nat) (t ty e : TypeId) (z : Value) (bytes : Nat) (ht : P.underlying t = some (.slice e)) (hinfo : (P.info? e).map (fun i => (i.zero, i.size, i.bytes)) = some (some z, sz, bytes)) (hzs : z.cells.size = sz) (hby : bytes ≤ 1000)
    (v : Value) (l : List α) (hown : OwnR w base e sz f v l) (A : Option Addr) (c : Nat) (m : List α) (hr : RowAt f sz w A m) (hl : l.length + m.length ≤ 1000000) (hbase : base ≤ w.heap.size) :
    ∃ v' w', (Builtin.append_ #[t, t] ty #[v, .slice A m.length c]).run P w = .ok v' w' ∧ OwnR w' base e sz f v' (l ++ m) ∧ w.grownBy w' v.ownBlock ∧ (v'.ownBlock = v.ownBlock ∨ v'.ownBlock = some w.heap.size) := by
  obtain ⟨i, hi, hz⟩ := Option.map_eq_some_iff.1 hinfo
  simp only [Prod.mk.injEq] at hz
  have hb8 : (l.length + m.length) * bytes ≤ 140737488355328 := by
    have : (l.length + m.length) * bytes ≤ (l.length + m.length) * 1000 := Nat.mul_le_mul_left _ hby
    omega
  have hone' : ∀ u ∈ m.flatMap f, u.oneCell' = true := fun u hu => by
    obtain ⟨y, _, h⟩ := List.mem_flatMap.1 hu
    exact hone y u h
  have hcomb : ∀ {v' w'}, w'.ownsRow base e sz v' (l.length + m.length) (l.flatMap f ++ m.flatMap f) → OwnR w' base e sz f v' (l ++ m) := fun h => by
    unfold OwnR
    rw [List.length_append, List.flatMap_append]
    exact h
  by_cases h0 : m = []
  · subst h0
    have hcap : ∃ A0 c0, v = .slice A0 l.length c0 ∧ l.length ≤ c0 ∧ (A0 = none → l.length = 0 ∧ c0 = 0) := by
      rcases hown.2 with ⟨rfl, h0⟩ | ⟨g, cap, cur, rfl, _, _, hn, _⟩
      · exact ⟨none, 0, by rw [h0], by omega, fun _ => ⟨h0, rfl⟩⟩
      · exact ⟨_, cap, rfl, hn, fun e => by cases e⟩
    obtain ⟨A0, c0, rfl, hc0, hn0⟩ := hcap
    have hrun : (Builtin.append_ #[t, t] ty #[.slice A0 l.length c0, .slice A 0 c]).run P w = .ok (.slice A0 l.length c0) w := by
      cases A0 with
      | some ad =>
        cases A with
        | some ad2 => simp [Builtin.append_, run_underlying ht, sizeOf, typeInfo, hi, Builtin.lenOf, hc0, storeCells, Builtin.firstCells, loadCells, loadCellsFrom]
        | none => simp [Builtin.append_, run_underlying ht, sizeOf, typeInfo, hi, Builtin.lenOf, hc0, run_firstCells_none, storeCells]
      | none =>
        obtain ⟨e1, e2⟩ := hn0 rfl
        rw [e1, e2]
        cases A with
        | some ad2 => simp [Builtin.append_, run_underlying ht, sizeOf, typeInfo, hi, Builtin.lenOf, storeCells, Builtin.firstCells, loadCells, loadCellsFrom]
        | none => simp [Builtin.append_, run_underlying ht, sizeOf, typeInfo, hi, Builtin.lenOf, run_firstCells_none, storeCells]
    refine ⟨_, w, hrun, by simpa using hown, ⟨rfl, rfl, rfl, Nat.le_refl _, fun _ _ _ => rfl⟩, .inl rfl⟩
  · obtain ⟨x0, hx0⟩ : ∃ x, m[0]? = some x := ⟨m[0]'(List.length_pos_iff.2 h0), List.getElem?_eq_getElem _⟩
    obtain ⟨b, off, rfl, _⟩ := hr 0 x0 hx0
    have hnews : ∀ j u, (m.flatMap f)[j]? = some u → w.cell? ((⟨b, off, none⟩ : Addr).add j) = some u := by
      intro j u hu
      obtain ⟨i, k, x, rfl, hk, hx, hu'⟩ := flat_back hf hz0 hu
      obtain ⟨b', off', e, hc⟩ := hr i x hx
      cases e
      have := hc k u hu'
      have ea : ((⟨b, off, none⟩ : Addr).add (i * sz + k)) = ⟨b, off + (i * sz + k), none⟩ := by unfold Addr.add; split <;> simp_all
      rw [ea, show off + (i * sz + k) = off + i * sz + k by omega]
      exact this
    obtain ⟨v', w', h1, h2, h3, _, h5⟩ := run_append_own_at (P := P) w base t ty e i z sz bytes ht hi hz.1 hz.2.1 hz.2.2 hzs hz0 v l.length _ hown ⟨b, off, none⟩ m.length c (m.flatMap f) (flat_length hf m) hnews hone' (by simp only [maxLen]; omega) hb8 hbase
    exact ⟨v', w', h1, hcomb h2, h3, h5⟩
/-- 'append(s, x...)' at the operation: s of the call's own, x read. -/
theorem wpList_appendR {α : Type} (f : α → List Value) (sz : Nat) (hf : ∀ x, (f x).length = sz) (hz0 : 0 < sz) (hone : ∀ x, ∀ u ∈ f x, u.oneCell' = true) (hgd : o.guard = none) (s x : Operand) (t e : TypeId) (z : Value) (bytes : Nat) (ho : o.op = .call { callee := .builtin .append, args := #[s, x], argTypes := #[t, t] })
    (ht : P.underlying t = some (.slice e)) (hinfo : (P.info? e).map (fun i => (i.zero, i.size, i.bytes)) = some (some z, sz, bytes)) (hzs : z.cells.size = sz) (hby : bytes ≤ 1000)
    (base : Nat) (v : Value) (l : List α) (A : Option Addr) (c : Nat) (m : List α) (hs : a.eval s = v) (hx : a.eval x = .slice A m.length c)
    (hown : OwnR w base e sz f v l) (hr : RowAt f sz w A m) (hl : l.length + m.length ≤ 1000000) (hbase : base ≤ w.heap.size)
    (h : ∀ v' w', OwnR w' base e sz f v' (l ++ m) → w.grownBy w' v.ownBlock → (v'.ownBlock = v.ownBlock ∨ v'.ownBlock = some w.heap.size) → wpList P ops Q rest (a.put o.dst v') w') : wpList P ops Q (o :: rest) a w := by
  refine wpList_plain hgd fun K hK => ?_
  obtain ⟨v', w', hrr, h2, h3, h5⟩ := run_append_rowR (P := P) (w := w) f sz hf hz0 hone base t o.type e z bytes ht hinfo hzs hby v l hown A c m hr hl hbase
  unfold Oper.wp execOp
  simp only [ho, resolve, invoke, builtin, Sem.run_bind, Sem.run_pure, Result.andThen_ok, List.map_toArray, List.map_cons, List.map_nil, hs, hx, hrr]
  exact hK _ _ (h v' w' h2 h3 h5)
/-- The same as one of a drawn region's steps. -/
theorem step_appendR {α : Type} (f : α → List Value) (sz : Nat) (hf : ∀ x, (f x).length = sz) (hz0 : 0 < sz) (hone : ∀ x, ∀ u ∈ f x, u.oneCell' = true) {K : Act → World → Prop} {E : Prop} (hgd : o.guard = none) (s x : Operand) (t e : TypeId) (z : Value) (bytes : Nat) (ho : o.op = .call { callee := .builtin .append, args := #[s, x], argTypes := #[t, t] })
    (ht : P.underlying t = some (.slice e)) (hinfo : (P.info? e).map (fun i => (i.zero, i.size, i.bytes)) = some (some z, sz, bytes)) (hzs : z.cells.size = sz) (hby : bytes ≤ 1000)
    (base : Nat) (v : Value) (l : List α) (A : Option Addr) (c : Nat) (m : List α) (hs : a.eval s = v) (hx : a.eval x = .slice A m.length c)
    (hown : OwnR w base e sz f v l) (hr : RowAt f sz w A m) (hl : l.length + m.length ≤ 1000000) (hbase : base ≤ w.heap.size)
    (h : ∀ v' w', OwnR w' base e sz f v' (l ++ m) → w.grownBy w' v.ownBlock → (v'.ownBlock = v.ownBlock ∨ v'.ownBlock = some w.heap.size) → K (a.put o.dst v') w') : if Region.wanted o (yielded ops a.tmps) = true then Oper.wp P o a w K Q else E := by
  have hw : Region.wanted o (yielded ops a.tmps) = true := by simp [Region.wanted, hgd]
  rw [if_pos hw]
  obtain ⟨v', w', hrr, h2, h3, h5⟩ := run_append_rowR (P := P) (w := w) f sz hf hz0 hone base t o.type e z bytes ht hinfo hzs hby v l hown A c m hr hl hbase
  unfold Oper.wp execOp
  simp only [ho, resolve, invoke, builtin, Sem.run_bind, Sem.run_pure, Result.andThen_ok, List.map_toArray, List.map_cons, List.map_nil, hs, hx, hrr]
  exact h v' w' h2 h3 h5
end
end Go.Proofs.YtgljkgkmbfhgiaaDoor
