/- What stands in the table's laws; the law's awake. -/
import Derived.Test.YtlpjjbkpoaohnaaDoorTabNewKey
import Derived.Test.YtlpjjbkpoaohnaaDoorTabRelease
import Derived.Test.YtlpjjbkpoaohnaaDoorTabNew
set_option linter.unusedVariables false
set_option linter.unusedSimpArgs false
namespace Go.Proofs.YtlpjjbkpoaohnaaDoor
open Go.RowKit Slots

/-- What stands in a law: the table; boxes of the law's own. -/
structure LSt (w0 w : World) (A : TA) (t : Tb) (bx : List (Nat × TypeId × Array Value)) : Prop where
  tb : TbM w A t
  be : Below w0.heap.size w0 w
  lo : ∀ i, A.fp i → w0.heap.size ≤ i
  bx : ∀ p ∈ bx, Blk w p.1 p.2.1 p.2.2 ∧ p.2.1 ≠ 118 ∧ p.2.1 ≠ 120
section
variable {w0 w w' : World} {A : TA} {t t' : Tb} {bx : List (Nat × TypeId × Array Value)}
theorem LSt.did (h : LSt w0 w A t bx) (hT : TbM w' A t') (hF : Fr w w' A.fp) : LSt w0 w' A t' bx :=
  ⟨hT, h.be.trans (hF.below h.be.size h.lo), h.lo, fun p hp => ⟨(h.bx p hp).1.fr hF (h.tb.apart (h.bx p hp).1 (h.bx p hp).2.1 (h.bx p hp).2.2), (h.bx p hp).2⟩⟩
theorem LSt.keep (h : LSt w0 w A t bx) (hb : Below w.heap.size w w') : LSt w0 w' A t bx :=
  ⟨h.tb.keep hb, belowOn h.be h.be.size hb, h.lo, fun p hp => ⟨(h.bx p hp).1.keep hb, (h.bx p hp).2⟩⟩
theorem LSt.drew (h : LSt w0 w A t bx) : LSt w0 w.drew A t bx := h.keep (Below.refl _ _).drew
theorem LSt.alloc (h : LSt w0 w A t bx) (o : Obj) : LSt w0 (w.alloc o) A t bx := h.keep ((Below.refl _ _).alloc (Nat.le_refl _) _)
theorem LSt.box (h : LSt w0 w A t bx) (cs : Array Value) (T : TypeId) (h1 : T ≠ 118 ∧ T ≠ 120) : LSt w0 (w.alloc (.cells cs T)) A t ((w.heap.size, T, cs) :: bx) := by
  refine ⟨(h.alloc _).tb, (h.alloc (.cells cs T)).be, h.lo, fun p hp => ?_⟩
  rcases List.mem_cons.1 hp with rfl | hp
  · exact ⟨Blk.new w T cs, h1⟩
  · exact (h.alloc (.cells cs T)).bx p hp
theorem LSt.hd {g : Nat} {T : TypeId} {cs : Array Value} (h : LSt w0 w A t ((g, T, cs) :: bx)) : Blk w g T cs := (h.bx _ (List.mem_cons_self ..)).1
theorem LSt.boxSet (h : LSt w0 w A t bx) (z us : Array Value) (hl : us.size = z.size) : LSt w0 ((w.alloc (.cells z 62)).setCells w.heap.size 0 us.toList) A t ((w.heap.size, 62, us) :: bx) := by
  have hb := h.box z 62 (by decide)
  have hs : ∀ i, i ≠ w.heap.size → ((w.alloc (.cells z 62)).setCells w.heap.size 0 us.toList).heap[i]? = (w.alloc (.cells z 62)).heap[i]? := fun i hi => setCells_other _ us.toList 0 _ i hi
  refine ⟨hb.tb.blk_ hb.hd (by decide) hs, below_setCells h.be.size us.toList 0 _ hb.be, h.lo, fun p hp => ?_⟩
  rcases List.mem_cons.1 hp with rfl | hp
  · exact ⟨hb.hd.setAll hl, (by decide : (62 : TypeId) ≠ 118 ∧ (62 : TypeId) ≠ 120)⟩
  · have hp' := h.bx p hp
    exact ⟨(hs _ (by have := hp'.1.lt; omega)).trans (hb.bx p (List.mem_cons_of_mem _ hp)).1, hp'.2⟩
theorem LSt.at_ (h : LSt w0 w A t bx) {g : Nat} {T : TypeId} {cs : Array Value} (hm : (g, T, cs) ∈ bx) : Blk w g T cs := (h.bx _ hm).1
theorem LSt.handle {g : Nat} {x y : Value} (h : LSt w0 w A t bx) (hm : (g, 50, #[x, y]) ∈ bx) : w.cell? ⟨g, 0, none⟩ = some x ∧ w.cell? ⟨g, 1, none⟩ = some y := by
  refine ⟨?_, ?_⟩ <;> (rw [(h.at_ hm).cell]; rfl)
end
theorem Chain.tfr {w w' : World} {A : TA} {t : Tb} {l : List ByteArray} {v : Value} {c : Int} (h : Chain w l v c) (hT : TbM w A t) (hF : Fr w w' A.fp) : Chain w' l v c :=
  h.mono fun k s u hk => hF.at_ hk (hT.apart (show Blk w k 123 #[.string s, u] from hk) (by decide) (by decide))
theorem ErrT.tfr {w w' : World} {A : TA} {t : Tb} {o : Option Int} {v : Value} (h : ErrT w o v) (hT : TbM w A t) (hF : Fr w w' A.fp) : ErrT w' o v := by
  cases o with
  | none => exact h
  | some c => obtain ⟨l, h⟩ := h; exact ⟨l, h.tfr hT hF⟩
theorem ErrT.blk_ {w w' : World} {g : Nat} {T : TypeId} {cs : Array Value} {o : Option Int} {v : Value} (h : ErrT w o v) (hg : Blk (w.alloc (.cells cs T)) g T cs) (hT : T ≠ 123) (hs : ∀ i, i ≠ g → w'.heap[i]? = (w.alloc (.cells cs T)).heap[i]?) : ErrT w' o v := by
  cases o with
  | none => exact h
  | some c => obtain ⟨l, h⟩ := h; exact ⟨l, (h.keep ((Below.refl _ _).alloc (Nat.le_refl _) _)).blk hg hT hs⟩
/-- errors.Is of what stands for an error's number. -/
theorem isT_calls (o : Option Int) (v : Value) (d : Int) (w : World) (h : ErrT w o v) : Calls Tryd.prog 23 #[v, .iface 38 (.int .i64 d)] w fun e w' => e = .returned (.bool (o == some d)) ∧ w = w' := by
  cases o with
  | none =>
    obtain rfl : v = .nilIface := h
    exact is_nil d w
  | some c =>
    obtain ⟨l, h⟩ := h
    refine (is_chain l v c d w h).mono ?_
    rintro e w' ⟨rfl, rfl⟩
    exact ⟨by simp, rfl⟩

def kB : ByteArray := ⟨#[107]⟩
def jB : ByteArray := ⟨#[106]⟩
def urlS (s : ByteArray) : Array Value := #[.string s, .string ⟨#[]⟩, .string ⟨#[]⟩, .int .i64 0, .string ⟨#[]⟩, .int .u32 0, .int .u16 0, .int .u16 0, .int .u16 0, .int .u16 0, .int .u16 0, .int .u16 0, .int .u16 0, .int .u16 0, .int .i64 0, .bool false, .slice none 0 0, .bool false, .string ⟨#[]⟩, .bool false, .string ⟨#[]⟩]
theorem urlS_ok (s : ByteArray) : UrlOk (urlS s) := ⟨rfl, by simp [urlS, Value.oneCell']⟩
theorem zeroUrl_s : zeroUrl = urlS ⟨#[]⟩ := rfl
def aw1 (u : Array Value) (a : Nat) : Tb := ⟨{ sl := [⟨1, 1, 1⟩], last := 5, head := 1, left := 0, live := 1 }, [⟨kB, u, (0, 1), a⟩], 2⟩
def aw2 (u : Array Value) (a : Nat) : Tb := ⟨{ sl := [⟨1, 2, 1⟩], last := 5, head := 1, left := 0, live := 1 }, [⟨kB, u, (0, 1), a⟩], 2⟩
def aw3 : Tb := ⟨{ sl := [⟨2, 0, 1⟩], last := 5, head := 0, left := 1, live := 0 }, [], 2⟩
theorem aw_in0 (u : Array Value) (a : Nat) : (newTb 1 5 2).intern kB u a = (aw1 u a, (0, 1), none) := by rfl
theorem aw_in1 (u u' : Array Value) (a a' : Nat) : (aw1 u a).intern kB u' a' = (aw2 u a, (0, 1), none) := by simp [Tb.intern, Tb.look, aw1, aw2, St.turn, St.ok, St.get]
theorem aw_in2 (u u' : Array Value) (a a' : Nat) : (aw2 u a).intern jB u' a' = (aw2 u a, (0, 0), some 8) := by
  have h : ¬ kB = jB := by decide
  simp [Tb.intern, Tb.look, aw2, h]
theorem aw_told (u : Array Value) (a : Nat) : (aw2 u a).told (0, 1) = some (⟨kB, u, (0, 1), a⟩, 2) := by simp [Tb.told, Tb.slot, aw2, St.turn, St.ok, St.get]
theorem aw_ok (u : Array Value) (a : Nat) : (aw2 u a).s.ok (0, 1) := by simp [aw2, St.ok, St.get]
theorem aw_rel2 (u : Array Value) (a : Nat) : (aw2 u a).release (0, 1) = (aw1 u a, none) := by simp [Tb.release, aw1, aw2, St.turn, St.ok, St.get]
theorem aw_rel1 (u : Array Value) (a : Nat) : (aw1 u a).release (0, 1) = (aw3, none) := by simp [Tb.release, aw1, aw3, St.turn, St.ok, St.get, St.freed]
theorem aw_rel3 : aw3.release (0, 1) = (aw3, some 7) := by simp [Tb.release, aw3, St.ok, St.get]
theorem aw_look1 (u : Array Value) (a : Nat) : (aw1 u a).look kB = some ⟨kB, u, (0, 1), a⟩ := by simp [Tb.look, aw1]
theorem aw_look3 : aw3.look kB = none := by simp [Tb.look, aw3]
theorem aw_ok0 : (newTb 1 5 2).Ok 0 (newRf 1 5) := newTb_ok 1 2 5 (by decide) (by decide) (by decide) (by decide) (by decide) (by decide)
theorem aw_ok1 (u : Array Value) (a : Nat) : ∃ x, (aw1 u a).Ok 1 x := ⟨_, by have := aw_ok0.intern (by decide) kB u a (by decide); rwa [aw_in0] at this⟩
theorem aw_ok2 (u : Array Value) (a : Nat) : ∃ x, (aw2 u a).Ok 2 x := by
  obtain ⟨x, h⟩ := aw_ok1 u a
  exact ⟨_, by have := h.intern (by decide) kB u 0 (by decide); rwa [aw_in1] at this⟩
theorem aw_ok3 : ∃ x, aw3.Ok 2 x := by
  obtain ⟨x, h⟩ := aw_ok1 #[] 0
  exact ⟨_, by have := h.release (by decide) (0, 1); rwa [aw_rel1] at this⟩

set_option maxRecDepth 100000 in
set_option maxHeartbeats 8000000 in
theorem awake_calls (w : World) : Calls Tryd.prog 6 #[] w fun e w' => e = .returned (.bool true) ∧ Below w.heap.size w w' := by
  go_enter Tryd.func6, Tryd.ntmps6
  go_wp2_with fail
  refine (tnew_ok 1 2 5 _ (by decide) (by decide) (by decide) (by decide) (by decide)).mono ?_
  rintro e w1 ⟨⟨A, rfl, hT1, _, hlo⟩, hb1⟩
  have H1 := Lib.hid (show LSt w w1 A _ [] from ⟨hT1, hb1, hlo, by simp⟩)
  clear hT1 hb1 hlo
  go_wp2_with fail
  obtain ⟨U, hU⟩ : ∃ U, U = urlS ⟨#[120]⟩ := ⟨_, rfl⟩
  have hUL : Value.agg U = Value.agg #[.string ⟨#[120]⟩, .string ⟨#[]⟩, .string ⟨#[]⟩, .int .i64 0, .string ⟨#[]⟩, .int .u32 0, .int .u16 0, .int .u16 0, .int .u16 0, .int .u16 0, .int .u16 0, .int .u16 0, .int .u16 0, .int .u16 0, .int .i64 0, .bool false, .slice none 0 0, .bool false, .string ⟨#[]⟩, .bool false, .string ⟨#[]⟩] := by rw [hU]; rfl
  have hU0 : U[0]? = some (.string ⟨#[120]⟩) := by rw [hU]; rfl
  have HUL := Lib.hid hUL
  have HU0 := Lib.hid hU0
  have hcc := intern_calls H1.out.tb aw_ok0 (by decide) kB (by decide) U (by rw [hU]; exact urlS_ok _)
  simp only [aw_in0] at hcc
  rw [hUL] at hcc
  have HUK := Lib.hid (show UrlOk U by rw [hU]; exact urlS_ok _)
  clear hU hUL hU0
  refine hcc.mono ?_
  clear hcc
  generalize Value.agg #[.string ⟨#[120]⟩, .string ⟨#[]⟩, .string ⟨#[]⟩, .int .i64 0, .string ⟨#[]⟩, .int .u32 0, .int .u16 0, .int .u16 0, .int .u16 0, .int .u16 0, .int .u16 0, .int .u16 0, .int .u16 0, .int .u16 0, .int .i64 0, .bool false, .slice none 0 0, .bool false, .string ⟨#[]⟩, .bool false, .string ⟨#[]⟩] = U1
  rintro e w2 ⟨a, ⟨v2, rfl, hv2⟩, hT2, hF2⟩
  obtain rfl : v2 = .nilIface := hv2
  have H2 := Lib.hid (H1.out.did hT2 hF2)
  clear hT2 hF2 H1
  go_wp2_with fail
  have H3 := Lib.hid (H2.out.box #[.int .i64 0, .int .u64 1] 50 (by decide))
  obtain ⟨x1, ok1⟩ := aw_ok1 U a
  have hcc := intern_calls H3.out.tb ok1 (by decide) kB (by decide) (urlS ⟨#[121]⟩) (urlS_ok _)
  simp only [aw_in1] at hcc
  refine hcc.mono ?_
  clear hcc
  generalize Value.agg #[.string ⟨#[121]⟩, .string ⟨#[]⟩, .string ⟨#[]⟩, .int .i64 0, .string ⟨#[]⟩, .int .u32 0, .int .u16 0, .int .u16 0, .int .u16 0, .int .u16 0, .int .u16 0, .int .u16 0, .int .u16 0, .int .u16 0, .int .i64 0, .bool false, .slice none 0 0, .bool false, .string ⟨#[]⟩, .bool false, .string ⟨#[]⟩] = U2
  rintro e w3 ⟨a2, ⟨v3, rfl, hv3⟩, hT, hF⟩
  obtain rfl : v3 = .nilIface := hv3
  have H4 := Lib.hid (H3.out.did hT hF)
  generalize w2.heap.size = b1 at H4 ⊢
  clear hT hF H3 H2
  go_wp2_with fail
  have H5 := Lib.hid (H4.out.box #[.int .i64 0, .int .u64 1] 50 (by decide))
  obtain ⟨x2, ok2⟩ := aw_ok2 U a
  have hcc := intern_calls H5.out.tb ok2 (by decide) jB (by decide) (urlS ⟨#[]⟩) (urlS_ok _)
  simp only [aw_in2] at hcc
  refine hcc.mono ?_
  clear hcc
  generalize Value.agg #[.string ⟨#[]⟩, .string ⟨#[]⟩, .string ⟨#[]⟩, .int .i64 0, .string ⟨#[]⟩, .int .u32 0, .int .u16 0, .int .u16 0, .int .u16 0, .int .u16 0, .int .u16 0, .int .u16 0, .int .u16 0, .int .u16 0, .int .i64 0, .bool false, .slice none 0 0, .bool false, .string ⟨#[]⟩, .bool false, .string ⟨#[]⟩] = U3
  rintro e w4 ⟨a4, ⟨v4, rfl, hv4⟩, hT, hF⟩
  have H6 := Lib.hid (H5.out.did hT hF)
  have HV4 := Lib.hid hv4
  generalize w3.heap.size = b2 at H6 ⊢
  clear hT hF H5 H4 hv4
  obtain ⟨c0, c1⟩ := H6.out.handle (g := b1) (x := .int .i64 0) (y := .int .u64 1) (by simp)
  have lt1 := (H6.out.at_ (g := b1) (T := 50) (cs := #[.int .i64 0, .int .u64 1]) (by simp)).lt
  go_wp2_with fail
  -- URL
  have H7 := Lib.hid (H6.out.box #[.int .i64 0, .int .u64 0] 50 (by decide))
  have hcc := url_calls H7.out.tb ok2 (by decide) (0, 1)
  rw [aw_told, if_pos (aw_ok _ _)] at hcc
  simp only [Option.map_some, Option.getD_some] at hcc
  refine hcc.mono ?_
  clear hcc
  rintro e w5 ⟨⟨v5, rfl, hv⟩, hT, hF⟩
  obtain rfl : v5 = .nilIface := hv
  have HV5 := Lib.hid ((HV4.out.keep ((Below.refl _ _).alloc (Nat.le_refl _) _)).tfr H7.out.tb hF)
  have H8 := Lib.hid (H7.out.did hT hF)
  generalize w4.heap.size = b3 at H8 ⊢
  clear hT hF H7 H6 HV4 c0 c1 lt1
  obtain ⟨c0, c1⟩ := H8.out.handle (g := b1) (x := .int .i64 0) (y := .int .u64 1) (by simp)
  have lt1 := (H8.out.at_ (g := b1) (T := 50) (cs := #[.int .i64 0, .int .u64 1]) (by simp)).lt
  have HZ := Lib.hid (Blk.new w5 62 #[.string ⟨#[]⟩, .string ⟨#[]⟩, .string ⟨#[]⟩, .int .i64 0, .string ⟨#[]⟩, .int .u32 0, .int .u16 0, .int .u16 0, .int .u16 0, .int .u16 0, .int .u16 0, .int .u16 0, .int .u16 0, .int .u16 0, .int .i64 0, .bool false, .slice none 0 0, .bool false, .string ⟨#[]⟩, .bool false, .string ⟨#[]⟩])
  have H9 := Lib.hid (H8.out.boxSet #[.string ⟨#[]⟩, .string ⟨#[]⟩, .string ⟨#[]⟩, .int .i64 0, .string ⟨#[]⟩, .int .u32 0, .int .u16 0, .int .u16 0, .int .u16 0, .int .u16 0, .int .u16 0, .int .u16 0, .int .u16 0, .int .u16 0, .int .i64 0, .bool false, .slice none 0 0, .bool false, .string ⟨#[]⟩, .bool false, .string ⟨#[]⟩] U HUK.out.1)
  obtain ⟨z0, z1⟩ := H9.out.handle (g := b1) (x := .int .i64 0) (y := .int .u64 1) (by simp)
  go_wp2_with (with_reducible (refine wpList_store_url HZ.out rfl HUK.out rfl _ _ rfl rfl rfl ?_))
  as_aux_lemma =>
    -- Count
    have HV5 := Lib.hid (HV5.out.blk_ HZ.out (by decide) (setCells_other _ U.toList 0 _))
    have hcc := count_calls H9.out.tb ok2 (by decide) (0, 1)
    rw [aw_told, if_pos (aw_ok _ _)] at hcc
    simp only [Option.map_some, Option.getD_some] at hcc
    refine hcc.mono ?_
    clear hcc
    rintro e w6 ⟨⟨v6, rfl, hv⟩, hT, hF⟩
    obtain rfl : v6 = .nilIface := hv
    have HV6 := Lib.hid (HV5.out.tfr H9.out.tb hF)
    have H10 := Lib.hid (H9.out.did hT hF)
    generalize w5.heap.size = b4 at H10 ⊢
    clear hT hF H9 H8 HV5 HZ c0 c1 lt1 z0 z1
    obtain ⟨c0, c1⟩ := H10.out.handle (g := b1) (x := .int .i64 0) (y := .int .u64 1) (by simp)
    go_wp2_with fail
    -- Release
    have hcc := release_calls H10.out.tb ok2 (by decide) (0, 1)
    rw [aw_rel2] at hcc
    refine hcc.mono ?_
    clear hcc
    rintro e w7 ⟨⟨v7, rfl, hv⟩, hT, hF⟩
    obtain rfl : v7 = .nilIface := hv
    have HV7 := Lib.hid (HV6.out.tfr H10.out.tb hF)
    have H11 := Lib.hid (H10.out.did hT hF)
    clear hT hF H10 HV6 c0 c1
    go_wp2_with fail
    -- Find
    have hcc := find_calls H11.out.tb ok1.n1 ok1.n2 kB (by decide)
    rw [aw_look1] at hcc
    refine hcc.mono ?_
    clear hcc
    rintro e w8 ⟨rfl, hb⟩
    have HV8 := Lib.hid (HV7.out.keep hb)
    have H12 := Lib.hid (H11.out.keep hb)
    clear hb H11 HV7
    obtain ⟨c0, c1⟩ := H12.out.handle (g := b1) (x := .int .i64 0) (y := .int .u64 1) (by simp)
    have lt1 := (H12.out.at_ (g := b1) (T := 50) (cs := #[.int .i64 0, .int .u64 1]) (by simp)).lt
    simp only [Option.map_some, Option.getD_some, Option.isSome_some]
    go_wp2_with fail
    -- Release
    have H13 := Lib.hid (H12.out.box #[.int .i64 0, .int .u64 1] 50 (by decide))
    have hcc := release_calls H13.out.tb ok1 (by decide) (0, 1)
    rw [aw_rel1] at hcc
    refine hcc.mono ?_
    clear hcc
    rintro e w9 ⟨⟨v9, rfl, hv⟩, hT, hF⟩
    obtain rfl : v9 = .nilIface := hv
    have HV9 := Lib.hid ((HV8.out.keep ((Below.refl _ _).alloc (Nat.le_refl _) _)).tfr H13.out.tb hF)
    have H14 := Lib.hid (H13.out.did hT hF)
    generalize w8.heap.size = b5 at H14 ⊢
    clear hT hF H13 H12 HV8 c0 c1 lt1
    go_wp2_with fail
    as_aux_lemma =>
      -- Find
      have hcc := find_calls H14.out.tb (show 1 ≤ 2 by omega) (show 2 ≤ 64 by omega) kB (by decide)
      rw [aw_look3] at hcc
      refine hcc.mono ?_
      clear hcc
      rintro e w10 ⟨rfl, hb⟩
      have HV10 := Lib.hid (HV9.out.keep hb)
      have H15 := Lib.hid (H14.out.keep hb)
      clear hb H14 HV9
      have hu := (H15.out.at_ (g := b4) (T := 62) (cs := U) (by simp))
      have u0 := hu.cell 0
      have ltu := hu.lt
      rw [HU0.out] at u0
      obtain ⟨c0, c1⟩ := H15.out.handle (g := b1) (x := .int .i64 0) (y := .int .u64 1) (by simp)
      have lt1 := (H15.out.at_ (g := b1) (T := 50) (cs := #[.int .i64 0, .int .u64 1]) (by simp)).lt
      obtain ⟨d0, d1⟩ := H15.out.handle (g := b2) (x := .int .i64 0) (y := .int .u64 1) (by simp)
      have lt2 := (H15.out.at_ (g := b2) (T := 50) (cs := #[.int .i64 0, .int .u64 1]) (by simp)).lt
      obtain ⟨f0, f1⟩ := H15.out.handle (g := b5) (x := .int .i64 0) (y := .int .u64 1) (by simp)
      have lt5 := (H15.out.at_ (g := b5) (T := 50) (cs := #[.int .i64 0, .int .u64 1]) (by simp)).lt
      clear hu
      simp only [Option.map_none, Option.getD_none, Option.isSome_none]
      have H16 := Lib.hid (H15.out.box #[.int .i64 0, .int .u64 0] 50 (by decide))
      have HV16 := Lib.hid (HV10.out.keep ((Below.refl _ w10).alloc (Nat.le_refl _) (.cells #[.int .i64 0, .int .u64 0] 50)))
      obtain ⟨x3, ok3⟩ := aw_ok3
      go_wp2_with (first
        | (go_at_call_of 23 v4; refine (isT_calls _ _ 8 _ HV16.out).mono ?_; rintro e w' ⟨rfl, rfl⟩)
        | (go_at_call 22; have hcc := release_calls H16.out.tb ok3 (by decide) (0, 1); rw [aw_rel3] at hcc; refine hcc.mono ?_; clear hcc; rintro e w11 ⟨⟨v11, rfl, hv⟩, hT, hF⟩; have HV11 := Lib.hid hv; have H17 := Lib.hid (H16.out.did hT hF); clear hT hF hv)
        | (go_at_call 23; refine (isT_calls _ _ 7 _ HV11.out).mono ?_; rintro e w' ⟨rfl, rfl⟩)
        | (go_at_call 10; refine (live_calls H17.out.tb).mono ?_; rintro e w' ⟨rfl, rfl⟩))
      go_ret
      exact ⟨rfl, H17.out.be⟩
end Go.Proofs.YtlpjjbkpoaohnaaDoor
