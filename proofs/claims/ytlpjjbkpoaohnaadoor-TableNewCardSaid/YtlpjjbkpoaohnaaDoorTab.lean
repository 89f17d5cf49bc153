/- The table in memory; its stripe of a key; Find, Live, In, and what is told of a handle. -/
import Derived.Test.YtlpjjbkpoaohnaaDoorTabPure
import Derived.Test.YtlpjjbkpoaohnaaDoorMapS
import Derived.Deep.MidRow
import Derived.Deep.RegionHeld3
import Derived.RegionTactic
set_option linter.unusedVariables false
set_option linter.unusedSimpArgs false
namespace Go.Proofs.YtlpjjbkpoaohnaaDoor
open Go.RowKit Slots

def Ent.cells (e : Ent) : Array Value := #[.string e.k] ++ e.u ++ #[.int .i64 e.h.1, .int .u64 e.h.2]
def UrlOk (u : Array Value) : Prop := u.size = 21 ∧ u.all (·.oneCell') = true
/-- Where a table lies: its block, its slots' two, its row of stripes, its map by slots, the row's room, the stripes. -/
structure TA where
  b : Nat
  sb : Nat
  sg : Nat
  lb : Nat
  yb : Nat
  c : Nat
  ms : List Nat
def TA.fp (A : TA) (i : Nat) : Prop := i = A.sb ∨ i = A.sg ∨ i = A.yb ∨ i ∈ A.ms
structure TbM (w : World) (A : TA) (t : Tb) : Prop where
  blk : Blk w A.b 84 #[.pointer (some ⟨A.sb, 0, none⟩), .slice (some ⟨A.lb, 0, none⟩) t.n A.c, .map (some A.yb)]
  slots : At w A.sb A.sg t.s
  row : ∃ cur, Blk w A.lb 85 cur ∧ ∀ (j m : Nat), A.ms[j]? = some m → cur[j]? = some (.map (some m))
  len : A.ms.length = t.n
  by_ : MapS (Value.int .i64) w A.yb (t.l.map Ent.byK)
  st : ∀ (j m : Nat), A.ms[j]? = some m → MapK Value.string w m ((t.l.filter fun e => decide (stripeN e.k t.n = j)).map Ent.inK)
  ents : ∀ e ∈ t.l, Blk w e.a 107 e.cells ∧ UrlOk e.u
  nd : A.ms.Nodup
  ny : A.yb ∉ A.ms
section
variable {w w' : World} {A : TA} {t : Tb}
theorem TbM.keep (h : TbM w A t) (hb : Below w.heap.size w w') : TbM w' A t := by
  obtain ⟨cur, h1, h2⟩ := h.row
  exact ⟨h.blk.keep hb, h.slots.keep hb, ⟨cur, h1.keep hb, h2⟩, h.len, h.by_.keep hb, fun j m hm => (h.st j m hm).keep hb, fun e he => ⟨(h.ents e he).1.keep hb, (h.ents e he).2⟩, h.nd, h.ny⟩
theorem TbM.drew (h : TbM w A t) : TbM w.drew A t := h.keep (Below.refl _ _).drew
theorem TbM.lt (h : TbM w A t) : A.b < w.heap.size ∧ A.lb < w.heap.size ∧ ∀ i, A.fp i → i < w.heap.size := by
  obtain ⟨cur, h1, h2⟩ := h.row
  refine ⟨h.blk.lt, h1.lt, ?_⟩
  rintro i (rfl | rfl | rfl | hi)
  · exact h.slots.blk.lt
  · exact h.slots.row.lt
  · exact h.by_.lt
  · obtain ⟨j, hj⟩ := List.getElem?_of_mem hi
    exact (h.st j i hj).lt
/-- A block of cells of another kind is none that the table's calls write. -/
theorem TbM.apart (h : TbM w A t) {g : Nat} {T : TypeId} {cs : Array Value} (hg : Blk w g T cs) (h1 : T ≠ 118) (h2 : T ≠ 120) : ¬ A.fp g := by
  rintro (rfl | rfl | rfl | hi)
  · exact absurd rfl (hg.ne_ h.slots.blk h1)
  · exact absurd rfl (hg.ne_ h.slots.row h2)
  · exact absurd rfl (h.by_.k.ne_blk hg)
  · obtain ⟨j, hj⟩ := List.getElem?_of_mem hi
    exact absurd rfl ((h.st j g hj).ne_blk hg)
theorem TbM.stripe (h : TbM w A t) (k : ByteArray) (hn : 1 ≤ t.n) : ∃ m, A.ms[stripeN k t.n]? = some m :=
  ⟨_, List.getElem?_eq_getElem (by rw [h.len]; exact stripeN_lt k hn)⟩
theorem TbM.c0 (h : TbM w A t) : w.cell? ⟨A.b, 0, none⟩ = some (.pointer (some ⟨A.sb, 0, none⟩)) := by rw [h.blk.cell]; rfl
theorem TbM.c1 (h : TbM w A t) : w.cell? ⟨A.b, 1, none⟩ = some (.slice (some ⟨A.lb, 0, none⟩) t.n A.c) := by rw [h.blk.cell]; rfl
theorem TbM.c2 (h : TbM w A t) : w.cell? ⟨A.b, 2, none⟩ = some (.map (some A.yb)) := by rw [h.blk.cell]; rfl
theorem TbM.r (h : TbM w A t) {j m : Nat} (hm : A.ms[j]? = some m) : w.cell? ⟨A.lb, j, none⟩ = some (.map (some m)) := by
  obtain ⟨cur, h1, h2⟩ := h.row
  rw [h1.cell, h2 j m hm]
end

set_option maxRecDepth 100000 in
theorem tstripe_calls {w : World} {A : TA} {t : Tb} (h : TbM w A t) (hn : 1 ≤ t.n) (hn2 : t.n ≤ 64) (k : ByteArray) (hk : k.size ≤ 1000000) {m : Nat} (hm : A.ms[stripeN k t.n]? = some m) :
    Calls Tryd.prog 33 #[.pointer (some ⟨A.b, 0, none⟩), .string k] w fun e w' => e = .returned (.map (some m)) ∧ Below w.heap.size w w' := by
  have c1 := h.c1
  have r1 := h.r hm
  have hlt := stripeN_lt k hn
  have HS := Lib.hid (fun w' => stripe_calls k t.n hn (by omega) hk w')
  have H := Lib.hid h
  have HM := Lib.hid hm
  generalize stripeN k t.n = S at r1 hlt HS HM
  have hlt2 : (S : Int) < (t.n : Int) := by omega
  clear h hm
  go_enter Tryd.func33, Tryd.ntmps33
  go_wp2_with fail
  go_region_held3 (fun w' => w'.cell? ⟨A.b, 1, none⟩ = some (.slice (some ⟨A.lb, 0, none⟩) t.n A.c) ∧ w'.cell? ⟨A.lb, S, none⟩ = some (.map (some m)))
    (first | exact ⟨c1, r1⟩ | exact ⟨(HK.out).c1, (HK.out).r HM.out⟩ | go_keep)
    (first
      | (go_at_call 52; refine (HS.out _).mono ?_; rintro e w1 ⟨rfl, hb⟩; have HK := Lib.hid (H.out.drew.keep hb); have HB := Lib.hid (belowOn (Below.refl w.heap.size w).drew (Nat.le_refl _) hb); clear hb))
  all_goals (
    go_wp2_with fail
    go_ret
    exact ⟨rfl, HB.out⟩)

/-- An error of this layer, or none. -/
def ErrT (w : World) : Option Int → Value → Prop
  | none, v => v = .nilIface
  | some c, v => ∃ l, Chain w l v c
theorem ErrT.keep {w w' : World} {o : Option Int} {v : Value} (h : ErrT w o v) (hb : Below w.heap.size w w') : ErrT w' o v := by
  cases o with
  | none => exact h
  | some c => obtain ⟨l, h⟩ := h; exact ⟨l, h.keep hb⟩
theorem ent_at {w : World} {e : Ent} (h : Blk w e.a 107 e.cells) (hu : UrlOk e.u) :
    w.cell? ⟨e.a, 0, none⟩ = some (.string e.k) ∧ w.cell? ⟨e.a, 22, none⟩ = some (.int .i64 e.h.1) ∧ w.cell? ⟨e.a, 23, none⟩ = some (.int .u64 e.h.2) ∧ w.rangeAt e.a 1 e.u.toList := by
  obtain ⟨h1, h2⟩ := hu
  refine ⟨?_, ?_, ?_, fun j v hv => ?_⟩
  · rw [h.cell]; unfold Ent.cells; rw [Array.getElem?_append_left (by simp; omega), Array.getElem?_append_left (by simp)]; rfl
  · rw [h.cell]; unfold Ent.cells; rw [Array.getElem?_append_right (by simp; omega)]; simp [h1]
  · rw [h.cell]; unfold Ent.cells; rw [Array.getElem?_append_right (by simp; omega)]; simp [h1]
  · have hj : j < e.u.size := by have := (List.getElem?_eq_some_iff.1 hv).1; simpa using this
    rw [h.cell]
    unfold Ent.cells
    rw [Array.getElem?_append_left (by simp; omega), Array.getElem?_append_right (by simp)]
    rw [← hv, Array.getElem?_toList]
    simp
theorem zero_ent (w : World) : (zeroValue 101).run Tryd.prog w = .ok (.pointer none) w := by kernel_rfl
/-- What the stripe says of a key. -/
theorem TbM.lookup {w : World} {A : TA} {t : Tb} (h : TbM w A t) (k : ByteArray) {m : Nat} (hm : A.ms[stripeN k t.n]? = some m) (c : Bool) :
    (Instr.lookup 85 (.map (some m)) (.string k) c).run Tryd.prog w = .ok (if c then .tuple #[((t.look k).map fun e => ptr e.a).getD (.pointer none), .bool (t.look k).isSome] else ((t.look k).map fun e => ptr e.a).getD (.pointer none)) w := by
  have := run_lookK (P := Tryd.prog) (d := .string) (kf := Value.string) c Tryd.underlying85 Tryd.underlying9 (z := .pointer none) (zero_ent w) (h.st _ m hm) k
  rw [lookIn] at this
  rw [this]
  unfold Tb.look
  cases t.l.find? fun e => decide (e.k = k) <;> rfl
theorem TbM.bySlot {w : World} {A : TA} {t : Tb} (h : TbM w A t) (i : Int) :
    (Instr.lookup 81 (.map (some A.yb)) (.int .i64 i) false).run Tryd.prog w = .ok (((t.slot i).map fun e => ptr e.a).getD (.pointer none)) w := by
  have := run_lookK (P := Tryd.prog) (d := .int .i64) (kf := Value.int .i64) false Tryd.underlying81 Tryd.underlying3 (z := .pointer none) (zero_ent w) h.by_.k i
  rw [lookBy] at this
  rw [this]
  rfl

theorem find_nil (k : ByteArray) (w : World) : Calls Tryd.prog 16 #[.pointer none, .string k] w fun e w' => e = .returned (.tuple #[.agg #[.int .i64 0, .int .u64 0], .bool false]) ∧ Below w.heap.size w w' := by
  have HB0 := Lib.hid (Blk.new w 50 #[.int .i64 0, .int .u64 0])
  have H0 := Lib.hid ((Below.refl w.heap.size w).alloc (Nat.le_refl _) (.cells #[.int .i64 0, .int .u64 0] 50))
  go_enter Tryd.func16, Tryd.ntmps16
  go_wp2_with fail
  refine bodyPost_ret (results_cell_row2 rfl _ _ w.heap.size 50 #[.int .i64 0, .int .u64 0] (0, 0) _ rfl (heap_alloc_new w _) Tryd.underlying50 rfl (by kernel_rfl)) rfl ?_
  exact ⟨rfl, H0.out⟩
set_option maxRecDepth 100000 in
theorem find_calls {w : World} {A : TA} {t : Tb} (h : TbM w A t) (hn : 1 ≤ t.n) (hn2 : t.n ≤ 64) (k : ByteArray) (hk : k.size ≤ 1000000) :
    Calls Tryd.prog 16 #[.pointer (some ⟨A.b, 0, none⟩), .string k] w fun e w' => e = .returned (.tuple #[.agg #[.int .i64 (((t.look k).map (·.h)).getD (0, 0)).1, .int .u64 (((t.look k).map (·.h)).getD (0, 0)).2], .bool (t.look k).isSome]) ∧ Below w.heap.size w w' := by
  obtain ⟨m, hm⟩ := h.stripe k hn
  have h0 := h.keep ((Below.refl w.heap.size w).alloc (Nat.le_refl _) (.cells #[.int .i64 0, .int .u64 0] 50))
  have HS := Lib.hid (tstripe_calls h0 hn hn2 k hk hm)
  have H := Lib.hid h0
  have HM := Lib.hid hm
  have HB0 := Lib.hid (Blk.new w 50 #[.int .i64 0, .int .u64 0])
  have H0 := Lib.hid ((Below.refl w.heap.size w).alloc (Nat.le_refl _) (.cells #[.int .i64 0, .int .u64 0] 50))
  clear h h0 hm
  go_enter Tryd.func16, Tryd.ntmps16
  go_wp2_with fail
  refine HS.out.mono ?_
  rintro e w1 ⟨rfl, hb⟩
  have H1 := Lib.hid (H.out.keep hb)
  have HB := Lib.hid (HB0.out.keep hb)
  have HW := Lib.hid (belowOn H0.out H0.out.size hb)
  have hlook := H1.out.lookup k HM.out true
  have e0 := HB.out.cell 0
  have e1 := HB.out.cell 1
  have fe := HB.out.frozen
  simp only [List.getElem?_toArray, List.getElem?_cons_zero, List.getElem?_cons_succ] at e0 e1
  clear hb HS H H0 HB0
  cases hf : t.look k with
  | none =>
    rw [hf] at hlook
    simp only [Option.map_none, Option.getD_none, Option.isSome_none, if_true] at hlook
    go_wp2_with fail
    have HR := res_set HB.out HW.out (Nat.le_refl _) (.int .i64 0) (.int .u64 0)
    refine bodyPost_ret (results_cell_row2 rfl _ _ w.heap.size 50 _ (0, 0) _ rfl HR.1 Tryd.underlying50 rfl (by kernel_rfl)) rfl ?_
    exact ⟨by rw [hf]; rfl, HR.2⟩
  | some e =>
    rw [hf] at hlook
    simp only [Option.map_some, Option.getD_some, Option.isSome_some, if_true, ptr] at hlook
    obtain ⟨he, hek⟩ := look_some hf
    obtain ⟨a1, a2⟩ := H1.out.ents e he
    obtain ⟨x0, x1, x2, _⟩ := ent_at a1 a2
    clear a1 a2 x0
    go_wp2_with fail
    have HR := res_set HB.out HW.out (Nat.le_refl _) (.int .i64 e.h.1) (.int .u64 e.h.2)
    refine bodyPost_ret (results_cell_row2 rfl _ _ w.heap.size 50 _ (0, 0) _ rfl HR.1 Tryd.underlying50 rfl (by kernel_rfl)) rfl ?_
    exact ⟨by rw [hf]; rfl, HR.2⟩
/-- The slots did something. -/
theorem TbM.slotsTo {w w' : World} {A : TA} {t : Tb} {s' : St} (h : TbM w A t) (hA : At w' A.sb A.sg s') (hF : Fr w w' (fun i => i = A.sb ∨ i = A.sg)) : TbM w' A { t with s := s' } := by
  obtain ⟨cur, h1, h2⟩ := h.row
  have hap : ∀ {g : Nat} {T : TypeId} {cs : Array Value}, Blk w g T cs → T ≠ 118 → T ≠ 120 → Blk w' g T cs := fun hg n1 n2 => hg.fr hF (by
    rintro (rfl | rfl)
    · exact absurd rfl (hg.ne_ h.slots.blk n1)
    · exact absurd rfl (hg.ne_ h.slots.row n2))
  have hmp : ∀ {κ : Type} {kf : κ → Value} {g : Nat} {kvs : List (κ × Value)}, MapK kf w g kvs → ¬ (g = A.sb ∨ g = A.sg) := fun hg => by
    rintro (rfl | rfl)
    · exact absurd rfl (hg.ne_blk h.slots.blk)
    · exact absurd rfl (hg.ne_blk h.slots.row)
  exact ⟨hap h.blk (by decide) (by decide), hA, ⟨cur, hap h1 (by decide) (by decide), h2⟩, h.len, h.by_.fr hF (hmp h.by_.k), fun j m hm => (h.st j m hm).fr hF (hmp (h.st j m hm)), fun e he => ⟨hap (h.ents e he).1 (by decide) (by decide), (h.ents e he).2⟩, h.nd, h.ny⟩
def Tb.told (t : Tb) (a : Int × Int) : Option (Ent × Int) := if t.s.ok a then (t.slot a.1).map fun e => (e, (t.s.turn a 0).2.getD 0) else none
theorem told_some {K : Int} {t : Tb} {x : Rf} (h : t.Ok K x) {a : Int × Int} (ha : t.s.ok a) : ∃ e, e ∈ t.l ∧ e.h = a ∧ t.slot a.1 = some e ∧ t.told a = some (e, (t.s.turn a 0).2.getD 0) := by
  obtain ⟨e, h1, h2, h3⟩ := h.entry ha
  exact ⟨e, h2, h3, h1, by unfold Tb.told; rw [if_pos ha, h1]; rfl⟩
theorem told_none {t : Tb} {a : Int × Int} (ha : ¬ t.s.ok a) : t.told a = none := by unfold Tb.told; rw [if_neg ha]
theorem turn_zero {s : St} {x : Rf} (h : Sim s x) (a : Int × Int) : (s.turn a 0).1 = s := by rw [sim_count h a]
def tableB : ByteArray := ⟨#[116, 97, 98, 108, 101]⟩
/-- fail.Wrap of an error. -/
theorem wrap_chain (s : ByteArray) {w : World} {l : List ByteArray} {v : Value} {c : Int} (h : Chain w l v c) :
    Calls Tryd.prog 25 #[.string s, v] w fun e w' => ∃ z, e = .returned z ∧ Chain w' (s :: l) z c ∧ Below w.heap.size w w' := by
  obtain ⟨t0, x0, rfl⟩ := h.iface
  refine (wrap_some s t0 x0 w).mono ?_
  rintro e w' ⟨rfl, rfl⟩
  exact ⟨_, rfl, .fail _ s l _ c (Blk.new w _ _) (h.keep ((Below.refl _ _).alloc (Nat.le_refl _) _)), (Below.refl _ _).alloc (Nat.le_refl _) _⟩
theorem entry_nil (a : Int × Int) (w : World) : Calls Tryd.prog 34 #[.pointer none, .agg #[.int .i64 a.1, .int .u64 a.2]] w fun e w' => (∃ v, e = .returned (.tuple #[.pointer none, .int .i64 0, v]) ∧ ErrT w' (some 1) v) ∧ Below w.heap.size w w' := by
  have H0 := Lib.hid ((Below.refl w.heap.size w).alloc (Nat.le_refl _) (.cells #[.int .i64 a.1, .int .u64 a.2] 50))
  go_enter Tryd.func34, Tryd.ntmps34
  go_wp2_with fail
  refine (wrap_num _ 1 _).mono ?_
  rintro e w1 ⟨N, rfl, hc, hb⟩
  have HC := Lib.hid hc
  have HB := Lib.hid (belowOn H0.out H0.out.size hb)
  clear hc hb H0
  go_wp2_with fail
  go_ret3
  exact ⟨⟨_, rfl, _, HC.out⟩, HB.out⟩
set_option maxRecDepth 100000 in
set_option maxHeartbeats 1000000 in
theorem entry_calls {w : World} {A : TA} {t : Tb} {x : Rf} {K : Int} (h : TbM w A t) (hok : t.Ok K x) (hK : K ≤ 999999) (a : Int × Int) :
    Calls Tryd.prog 34 #[.pointer (some ⟨A.b, 0, none⟩), .agg #[.int .i64 a.1, .int .u64 a.2]] w fun e w' =>
      (∃ v, e = .returned (.tuple #[((t.told a).map fun p => ptr p.1.a).getD (.pointer none), .int .i64 (((t.told a).map (·.2)).getD 0), v]) ∧ ErrT w' (if t.s.ok a then none else some 7) v) ∧ TbM w' A t ∧ Fr w w' A.fp := by
  have hf := hok.fine hK
  have h0 := h.keep ((Below.refl w.heap.size w).alloc (Nat.le_refl _) (.cells #[.int .i64 a.1, .int .u64 a.2] 50))
  have hb0 := Blk.new w 50 #[.int .i64 a.1, .int .u64 a.2]
  have hap0 := h0.apart hb0 (by decide) (by decide)
  have c0 := h0.c0
  have y0 := hb0.cell 0
  have y1 := hb0.cell 1
  simp only [List.getElem?_toArray, List.getElem?_cons_zero, List.getElem?_cons_succ] at y0 y1
  have H0 := Lib.hid ((Fr.refl w A.fp).alloc (.cells #[.int .i64 a.1, .int .u64 a.2] 50))
  have H := Lib.hid h0
  have HB := Lib.hid hb0
  have HAP := Lib.hid hap0
  have HK := Lib.hid hok
  have HT := Lib.hid (turn_zero hok.sim a)
  have HC := Lib.hid (fun w1 (hA : At w1 A.sb A.sg t.s) => slots_count hA hf a)
  obtain ⟨cnt, hcnt⟩ : ∃ cnt, (t.s.turn a 0).2.getD 0 = cnt := ⟨_, rfl⟩
  have HCNT := Lib.hid hcnt
  rw [HT.out, hcnt] at HC
  clear h h0 hb0 hf hok hap0 hcnt
  by_cases hk : t.s.ok a
  · have hst : st t.s a = none := by unfold st; rw [if_pos hk]
    obtain ⟨e0, he, hea, hsl, htd⟩ := told_some HK.out hk
    rw [htd, HCNT.out, if_pos hk]
    rw [hst] at HC
    have HSL := Lib.hid hsl
    clear hk hst htd he hea hsl
    generalize hW : w.alloc (.cells #[.int .i64 a.1, .int .u64 a.2] 50) = W at *
    go_enter Tryd.func34, Tryd.ntmps34
    go_wp2_with fail
    clear hW
    go_region_held3 (fun w' => w'.cell? ⟨A.b, 0, none⟩ = some (.pointer (some ⟨A.sb, 0, none⟩)) ∧ w'.cell? ⟨w.heap.size, 0, none⟩ = some (.int .i64 a.1) ∧ w'.cell? ⟨w.heap.size, 1, none⟩ = some (.int .u64 a.2))
      (first | exact ⟨c0, y0, y1⟩ | exact ⟨c01, y01, y11⟩ | go_keep)
      (first
        | (go_at_call 53; refine (HC.out _ H.out.drew.slots).mono ?_; rintro e w1 ⟨⟨v, rfl, hv⟩, hA, hF⟩; have hT1 := H.out.drew.slotsTo hA hF; have HT1 := Lib.hid hT1; have c01 := hT1.c0; have hb1 := HB.out.drew.fr hF (fun e => HAP.out (e.elim .inl fun e => .inr (.inl e))); have y01 := hb1.cell 0; have y11 := hb1.cell 1; simp only [List.getElem?_toArray, List.getElem?_cons_zero, List.getElem?_cons_succ] at y01 y11; have HF := Lib.hid (H0.out.drew.trans hF (fun i hi => .inl (hi.elim .inl fun e => .inr (.inl e)))); have hv2 : v = .nilIface := hv; subst hv2; clear hT1 hb1 hv hA hF))
    all_goals (
      have hby := HT1.out.drew.bySlot a.1
      rw [show ({ s := t.s, l := t.l, n := t.n } : Tb).slot a.1 = some e0 from HSL.out] at hby
      simp only [Option.map_some, Option.getD_some] at hby
      have c21 := HT1.out.c2
      go_wp2_with fail
      go_region_held3 (fun w' => w'.cell? ⟨A.b, 2, none⟩ = some (.map (some A.yb)) ∧ w'.cell? ⟨w.heap.size, 0, none⟩ = some (.int .i64 a.1))
        (first | exact ⟨c21, y01⟩ | go_keep)
        (fail))
    all_goals (
      go_wp2_with fail
      go_ret3
      exact ⟨⟨_, rfl, rfl⟩, HT1.out.drew, HF.out.drew⟩)
  · have hst : st t.s a = some 7 := by unfold st; rw [if_neg hk]
    rw [told_none hk, if_neg hk]
    rw [hst] at HC
    clear hk hst
    generalize hW : w.alloc (.cells #[.int .i64 a.1, .int .u64 a.2] 50) = W at *
    go_enter Tryd.func34, Tryd.ntmps34
    go_wp2_with fail
    clear hW
    go_region_held3 (fun w' => w'.cell? ⟨A.b, 0, none⟩ = some (.pointer (some ⟨A.sb, 0, none⟩)) ∧ w'.cell? ⟨w.heap.size, 0, none⟩ = some (.int .i64 a.1) ∧ w'.cell? ⟨w.heap.size, 1, none⟩ = some (.int .u64 a.2))
      (first | exact ⟨c0, y0, y1⟩ | exact ⟨c01, y01, y11⟩ | go_keep)
      (first
        | (go_at_call 53; refine (HC.out _ H.out.drew.slots).mono ?_; rintro e w1 ⟨⟨v, rfl, hv⟩, hA, hF⟩; have hT1 := H.out.drew.slotsTo hA hF; have HT1 := Lib.hid hT1; have c01 := hT1.c0; have hb1 := HB.out.drew.fr hF (fun e => HAP.out (e.elim .inl fun e => .inr (.inl e))); have y01 := hb1.cell 0; have y11 := hb1.cell 1; simp only [List.getElem?_toArray, List.getElem?_cons_zero, List.getElem?_cons_succ] at y01 y11; have HF := Lib.hid (H0.out.drew.trans hF (fun i hi => .inl (hi.elim .inl fun e => .inr (.inl e)))); obtain ⟨t0, x0, hx0⟩ := Chain.iface hv; subst hx0; have HV := Lib.hid hv; clear hT1 hb1 hv hA hF))
    all_goals (
      go_wp2_with fail
      refine (wrap_chain tableB HV.out).mono ?_
      rintro e w2 ⟨z, rfl, hc, hb⟩
      have HC2 := Lib.hid hc
      have HB2 := Lib.hid hb
      clear hc hb
      go_wp2_with fail
      go_ret3
      exact ⟨⟨_, rfl, _, HC2.out⟩, HT1.out.keep HB2.out, HF.out.trans (Fr.of_below HB2.out A.fp) (fun i hi => .inl hi)⟩)
end Go.Proofs.YtlpjjbkpoaohnaaDoor
