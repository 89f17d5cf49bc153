/- Rows of whole numbers: read, copied, pushed on. -/
import Derived.Test.YtbeibfhnbnmocaaDoorBase
import Derived.Deep.RegionLaw
set_option linter.unusedVariables false
set_option linter.unusedSimpArgs false
namespace Go.Proofs.YtbeibfhnbnmocaaDoor
open Go.RowKit

/-- The walk stops here (an arm lays it; stop_go goes on). -/
def Stop (p : Prop) : Prop := p
theorem stop_here {p : Prop} (h : Stop p) : p := h
theorem stop_go {p : Prop} (h : p) : Stop p := h

/-- The slice at A, of elements of type e, reads as these numbers. -/
def RowI (k : IntKind) (e : TypeId) (w : World) (A : Option Addr) (l : List Int) : Prop :=
  l = [] ∨ ∃ b off, A = some ⟨b, off, none⟩ ∧ (∃ cur, Blk w b e cur) ∧ ∀ (i : Nat) (y : Int), l[i]? = some y → w.cell? ⟨b, off + i, none⟩ = some (.int k y)
section
variable {k : IntKind} {e : TypeId} {w w' : World} {A : Option Addr} {l : List Int}
theorem RowI.at_ (h : RowI k e w A l) {i : Nat} {y : Int} (hi : l[i]? = some y) : ∃ b off, A = some ⟨b, off, none⟩ ∧ b < w.heap.size ∧ w.cell? ⟨b, off + i, none⟩ = some (.int k y) := by
  rcases h with rfl | ⟨b, off, rfl, ⟨cur, hb⟩, h⟩
  · simp at hi
  · exact ⟨b, off, rfl, hb.lt, h i y hi⟩
theorem RowI.of_same (h : RowI k e w A l) (hw : ∀ b off, A = some ⟨b, off, none⟩ → w'.heap[b]? = w.heap[b]?) : RowI k e w' A l := by
  rcases h with h | ⟨b, off, rfl, ⟨cur, hb⟩, h⟩
  · exact .inl h
  · have hh := hw b off rfl
    refine .inr ⟨b, off, rfl, ⟨cur, hh.trans hb⟩, fun i y hy => ?_⟩
    have := h i y hy
    simp only [World.cell?] at this ⊢
    rw [hh]; exact this
theorem RowI.keepB (h : RowI k e w A l) (hb : Below w.heap.size w w') : RowI k e w' A l := by
  rcases h with h | ⟨b, off, rfl, ⟨cur, hlt⟩, h⟩
  · exact .inl h
  · exact RowI.of_same (.inr ⟨b, off, rfl, ⟨cur, hlt⟩, h⟩) fun b' off' e => by cases e; exact hb.block b hlt.lt
theorem RowI.far (h : RowI k e w A l) {p : Addr} (hp : ∀ b off, A = some ⟨b, off, none⟩ → b ≠ p.block) (u : Value) : RowI k e (w.setCell p u) A l :=
  h.of_same fun b off e => Below.heap_setCell w p u b (hp b off e)
/-- A store into a block of another type. -/
theorem RowI.farT (h : RowI k e w A l) {g : Nat} {t : TypeId} {cs : Array Value} (hg : Blk w g t cs) (ht : e ≠ t) (i : Nat) (u : Value) : RowI k e (w.setCell ⟨g, i, none⟩ u) A l := by
  rcases h with h | ⟨b, off, rfl, ⟨cur, hlt⟩, h⟩
  · exact .inl h
  · exact RowI.far (.inr ⟨b, off, rfl, ⟨cur, hlt⟩, h⟩) (fun b' off' e => by cases e; exact hlt.ne_ hg ht) u
theorem RowI.tail {a : Int} {l : List Int} {b off : Nat} (h : RowI k e w (some ⟨b, off, none⟩) (a :: l)) : RowI k e w (some ⟨b, off + 1, none⟩) l := by
  rcases h with h | ⟨b', off', e, hlt, h⟩
  · cases h
  · cases e
    refine .inr ⟨b, off + 1, rfl, hlt, fun i y hy => ?_⟩
    have := h (i + 1) y (by simpa using hy)
    rwa [show off + (i + 1) = off + 1 + i by omega] at this
theorem RowI.lt' (h : RowI k e w A l) : l = [] ∨ ∀ b off, A = some ⟨b, off, none⟩ → b < w.heap.size := by
  rcases h with h | ⟨b, off, rfl, ⟨cur, hb⟩, _⟩
  · exact .inl h
  · exact .inr fun b' off' e => by cases e; exact hb.lt
end

/-- A row of the call's own: from block B on. -/
def OwnI (w : World) (B : Nat) (e : TypeId) (k : IntKind) (v : Value) (l : List Int) : Prop := w.ownsRow B e 1 v l.length (l.map (Value.int k))
section
variable {k : IntKind} {e : TypeId} {w w' : World} {B : Nat} {v : Value} {l : List Int}
theorem OwnI.row (h : OwnI w B e k v l) : ∃ A c, v = .slice A l.length c ∧ RowI k e w A l ∧ l.length ≤ c ∧ (∀ b off, A = some ⟨b, off, none⟩ → B ≤ b ∧ v.ownBlock = some b ∧ off = 0) := by
  by_cases h0 : l = []
  · subst h0
    rcases h.2 with ⟨rfl, _⟩ | ⟨g, cap, cur, rfl, hb, _⟩
    · exact ⟨none, 0, rfl, .inl rfl, Nat.le_refl _, fun b off e => by cases e⟩
    · exact ⟨_, cap, rfl, .inl rfl, Nat.zero_le _, fun b off e => by cases e; exact ⟨hb, rfl, rfl⟩⟩
  · have hp : 0 < l.length := List.length_pos_iff.2 h0
    obtain ⟨g, cap, cur, rfl, hb, hnc, hm, hg, hc, _⟩ := row_form h hp
    refine ⟨_, cap, rfl, .inr ⟨g, 0, rfl, ⟨cur, hg⟩, fun i y hy => ?_⟩, hnc, fun b off e => by cases e; exact ⟨hb, rfl, rfl⟩⟩
    rw [Nat.zero_add]
    exact hc i _ (by rw [List.getElem?_map, hy]; rfl)
theorem OwnI.set_ {g cap : Nat} {n : Nat} (h : OwnI w B e k (.slice (some ⟨g, 0, none⟩) n cap) l) (hn : n = l.length) (i : Nat) (y : Int) : OwnI (w.setCell ⟨g, i, none⟩ (.int k y)) B e k (.slice (some ⟨g, 0, none⟩) n cap) (l.set i y) := by
  subst hn
  have := row_set (c := i) (u := .int k y) h
  unfold OwnI
  rw [List.length_set, List.map_set]
  exact this
theorem OwnI.keep (h : OwnI w B e k v l) (hk : ∀ g, v.ownBlock = some g → w'.heap[g]? = w.heap[g]?) : OwnI w' B e k v l := row_keep h hk
theorem OwnI.below (h : OwnI w B e k v l) (hb : Below w.heap.size w w') : OwnI w' B e k v l := row_below h hb
theorem OwnI.blk (h : OwnI w B e k v l) {g : Nat} (hg : v.ownBlock = some g) : B ≤ g ∧ ∃ cur, Blk w g e cur := row_blk h hg
theorem OwnI.nil (w : World) (B : Nat) (e : TypeId) (k : IntKind) : OwnI w B e k (.slice none 0 0) [] := World.ownsRow_nil w B e 1
end

section
variable {P : Program} {w : World} {ops : Array Oper} {rest : List Oper} {o : Oper} {a : Act} {Q : Exit → Act → World → Prop}
/-- An append of a whole row, that may be nil, to a row of the call's own: as one run. -/
theorem run_append_rowI (base : Nat) (t ty e : TypeId) (k : IntKind) (bytes : Nat) (ht : P.underlying t = some (.slice e)) (hinfo : (P.info? e).map (fun i => (i.zero, i.size, i.bytes)) = some (some (.int k 0), 1, bytes)) (hby : bytes ≤ 8)
    (v : Value) (l : List Int) (hown : OwnI w base e k v l) (A : Option Addr) (c : Nat) (m : List Int) (hr : RowI k e w A m) (hl : l.length + m.length ≤ 1000000) (hbase : base ≤ w.heap.size) :
    ∃ v' w', (Builtin.append_ #[t, t] ty #[v, .slice A m.length c]).run P w = .ok v' w' ∧ OwnI w' base e k v' (l ++ m) ∧ w.grownBy w' v.ownBlock ∧ (v'.ownBlock = v.ownBlock ∨ v'.ownBlock = some w.heap.size) := by
  obtain ⟨i, hi, hz⟩ := Option.map_eq_some_iff.1 hinfo
  simp only [Prod.mk.injEq] at hz
  have hb8 : (l.length + m.length) * bytes ≤ 140737488355328 := by
    have : (l.length + m.length) * bytes ≤ (l.length + m.length) * 8 := Nat.mul_le_mul_left _ hby
    omega
  have hone : ∀ u ∈ m.map (Value.int k), u.oneCell' = true := fun u hu => by
    obtain ⟨y, _, rfl⟩ := List.mem_map.1 hu
    rfl
  have hcomb : ∀ {v' w'}, w'.ownsRow base e 1 v' (l.length + m.length) (l.map (Value.int k) ++ m.map (Value.int k)) → OwnI w' base e k v' (l ++ m) := fun h => by
    unfold OwnI
    rw [List.length_append, List.map_append]
    exact h
  cases A with
  | some ad =>
    have hnews : ∀ j u, (m.map (Value.int k))[j]? = some u → w.cell? (ad.add j) = some u := by
      intro j u hu
      rw [List.getElem?_map] at hu
      obtain ⟨y, hy, rfl⟩ := Option.map_eq_some_iff.1 hu
      obtain ⟨b, off, e, _, hc⟩ := hr.at_ hy
      cases e
      have : ((⟨b, off, none⟩ : Addr).add j) = ⟨b, off + j, none⟩ := by unfold Addr.add; split <;> simp_all
      rw [this]
      exact hc
    obtain ⟨v', w', h1, h2, h3, _, h5⟩ := run_append_own_at (P := P) w base t ty e i (.int k 0) 1 bytes ht hi hz.1 hz.2.1 hz.2.2 rfl (by omega) v l.length _ hown ad m.length c (m.map (Value.int k)) (by simp) hnews hone (by simp only [maxLen]; omega) hb8 hbase
    exact ⟨v', w', h1, hcomb h2, h3, h5⟩
  | none =>
    have hm : m = [] := by
      rcases hr with h | ⟨b, off, e, _⟩
      · exact h
      · cases e
    subst hm
    obtain ⟨A0, c0, rfl, _, hc0, _⟩ := hown.row
    refine ⟨_, w, ?_, by simpa using hown, ⟨rfl, rfl, rfl, Nat.le_refl _, fun _ _ _ => rfl⟩, .inl rfl⟩
    cases A0 with
    | some ad => simp [Builtin.append_, run_underlying ht, sizeOf, typeInfo, hi, Builtin.lenOf, hc0, run_firstCells_none, storeCells]
    | none =>
      rcases hown.2 with ⟨e, h0⟩ | ⟨_, _, _, e, _⟩
      · injection e with _ e1 e2
        have hl0 : l = [] := by simpa using h0
        subst hl0
        subst e2
        simp [Builtin.append_, run_underlying ht, sizeOf, typeInfo, hi, Builtin.lenOf, run_firstCells_none, storeCells]
      · cases e

/-- 'append(s, x...)' at the operation: s of the call's own, x read. -/
theorem wpList_appendI (hgd : o.guard = none) (s x : Operand) (t e : TypeId) (k : IntKind) (bytes : Nat) (ho : o.op = .call { callee := .builtin .append, args := #[s, x], argTypes := #[t, t] })
    (ht : P.underlying t = some (.slice e)) (hinfo : (P.info? e).map (fun i => (i.zero, i.size, i.bytes)) = some (some (.int k 0), 1, bytes)) (hby : bytes ≤ 8)
    (base : Nat) (v : Value) (l : List Int) (A : Option Addr) (c : Nat) (m : List Int) (hs : a.eval s = v) (hx : a.eval x = .slice A m.length c)
    (hown : OwnI w base e k v l) (hr : RowI k e w A m) (hl : l.length + m.length ≤ 1000000) (hbase : base ≤ w.heap.size)
    (h : ∀ v' w', OwnI w' base e k v' (l ++ m) → w.grownBy w' v.ownBlock → (v'.ownBlock = v.ownBlock ∨ v'.ownBlock = some w.heap.size) → wpList P ops Q rest (a.put o.dst v') w') : wpList P ops Q (o :: rest) a w := by
  refine wpList_plain hgd fun K hK => ?_
  obtain ⟨v', w', hrr, h2, h3, h5⟩ := run_append_rowI (P := P) (w := w) base t o.type e k bytes ht hinfo hby v l hown A c m hr hl hbase
  unfold Oper.wp execOp
  simp only [ho, resolve, invoke, builtin, Sem.run_bind, Sem.run_pure, Result.andThen_ok, List.map_toArray, List.map_cons, List.map_nil, hs, hx, hrr]
  exact hK _ _ (h v' w' h2 h3 h5)
/-- The same as one of a drawn region's steps. -/
theorem step_appendI {K : Act → World → Prop} {E : Prop} (hgd : o.guard = none) (s x : Operand) (t e : TypeId) (k : IntKind) (bytes : Nat) (ho : o.op = .call { callee := .builtin .append, args := #[s, x], argTypes := #[t, t] })
    (ht : P.underlying t = some (.slice e)) (hinfo : (P.info? e).map (fun i => (i.zero, i.size, i.bytes)) = some (some (.int k 0), 1, bytes)) (hby : bytes ≤ 8)
    (base : Nat) (v : Value) (l : List Int) (A : Option Addr) (c : Nat) (m : List Int) (hs : a.eval s = v) (hx : a.eval x = .slice A m.length c)
    (hown : OwnI w base e k v l) (hr : RowI k e w A m) (hl : l.length + m.length ≤ 1000000) (hbase : base ≤ w.heap.size)
    (h : ∀ v' w', OwnI w' base e k v' (l ++ m) → w.grownBy w' v.ownBlock → (v'.ownBlock = v.ownBlock ∨ v'.ownBlock = some w.heap.size) → K (a.put o.dst v') w') : if Region.wanted o (yielded ops a.tmps) = true then Oper.wp P o a w K Q else E := by
  have hw : Region.wanted o (yielded ops a.tmps) = true := by simp [Region.wanted, hgd]
  rw [if_pos hw]
  obtain ⟨v', w', hrr, h2, h3, h5⟩ := run_append_rowI (P := P) (w := w) base t o.type e k bytes ht hinfo hby v l hown A c m hr hl hbase
  unfold Oper.wp execOp
  simp only [ho, resolve, invoke, builtin, Sem.run_bind, Sem.run_pure, Result.andThen_ok, List.map_toArray, List.map_cons, List.map_nil, hs, hx, hrr]
  exact h v' w' h2 h3 h5
end
/-- A fresh empty row. -/
theorem OwnI.fresh (w : World) (B : Nat) (e : TypeId) (k : IntKind) (hB : B ≤ w.heap.size) : OwnI (w.alloc (.cells #[] e)) B e k (.slice (some ⟨w.heap.size, 0, none⟩) 0 0) [] :=
  World.ownsRow_made w #[] 0 hB (by decide) rfl
/-- A fresh row of one. -/
theorem RowI.one (w : World) (e : TypeId) (k : IntKind) (y : Int) : RowI k e (w.alloc (.cells #[.int k y] e)) (some ⟨w.heap.size, 0, none⟩) [y] := by
  refine .inr ⟨w.heap.size, 0, rfl, ⟨_, Blk.new w e _⟩, fun i z hz => ?_⟩
  cases i with
  | zero =>
    simp only [List.getElem?_cons_zero, Option.some.injEq] at hz
    subst hz
    rw [(Blk.new w e #[.int k y]).cell]
    rfl
  | succ i => simp at hz
end Go.Proofs.YtbeibfhnbnmocaaDoor
