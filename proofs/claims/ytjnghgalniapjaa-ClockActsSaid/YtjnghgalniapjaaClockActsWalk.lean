/- The law ClockActs, walked. -/
import Derived.Test.YtjnghgalniapjaaRef6
import Derived.Deep.RegionHeld3
import Derived.BigQuiet
set_option linter.unusedSimpArgs false
set_option linter.unusedVariables false
namespace Go.Proofs.Ytjnghgalniapjaa
open Go.RowKit

/-- The memo, the reference's memo, and the variable that holds it: alike. -/
structure Both (w : World) (B gx : Nat) (pv u : Value) (m : Memo) : Prop where
  memo : MemoAt w B (B + 1) B pv m
  ref : RefAt w B u m.l
  box : Blk w gx 32 #[u, .int .i64 m.room, .int .i64 m.hand]
  low : B ≤ gx
theorem memo_setc {w : World} {base b mb g : Nat} {pv : Value} {m : Memo} {cs : Array Value} (h : MemoAt w base b mb pv m) (hg : Blk w g 32 cs) (i : Nat) (x : Value) : MemoAt (w.setCell ⟨g, i, none⟩ x) base b mb pv m := by
  obtain ⟨kvs, hk, hi⟩ := h.map
  refine ⟨h.ok, h.bb, h.bm, h.blk.far (h.blk.ne_ hg (by decide)) x, ?_, kvs, hk.far (hk.ne_blk hg) x, hi⟩
  exact row_keep h.row fun g' hg' => Below.heap_setCell _ _ _ _ (by obtain ⟨_, cur, hc⟩ := row_blk h.row hg'; exact hc.ne_ hg (by decide))
/-- The reference's memo is told to its variable. -/
theorem both_set {w : World} {B gx : Nat} {pv u u' y z : Value} {m : Memo} (hM : MemoAt w B (B + 1) B pv m) (hR : RefAt w B u' m.l) (hX : Blk w gx 32 #[u, y, z]) (hl : B ≤ gx) :
    Both (((w.setCell ⟨gx, 0, none⟩ u').setCell ⟨gx, 1, none⟩ (.int .i64 m.room)).setCell ⟨gx, 2, none⟩ (.int .i64 m.hand)) B gx pv u' m := by
  refine ⟨?_, ref_far hR hX, out_done hX, hl⟩
  have h0 := memo_setc hM hX 0 u'
  have x0 := hX.set_ 0 u'
  have h1 := memo_setc h0 x0 1 (.int .i64 m.room)
  have x1 := x0.set_ 1 (.int .i64 m.room)
  exact memo_setc h1 x1 2 (.int .i64 m.hand)
theorem Both.keep {w w' : World} {B gx : Nat} {pv u : Value} {m : Memo} (h : Both w B gx pv u m) (hb : Below w.heap.size w w') : Both w' B gx pv u m :=
  ⟨h.memo.keep hb, h.ref.keep hb, h.box.keep hb, h.low⟩

/-- What a memo is asked does not hang on its marks. -/
def core (p : Pl) : ByteArray × Int × ByteArray := (p.k, p.ver, p.v)
theorem findP_core {k : ByteArray} : ∀ {l l' : List Pl}, l.map core = l'.map core → findP k l = findP k l'
  | [], [], _ => rfl
  | [], q :: l', h => by simp at h
  | p :: l, [], h => by simp at h
  | p :: l, q :: l', h => by
    simp only [List.map_cons, List.cons.injEq] at h
    have hk : p.k = q.k := congrArg Prod.fst h.1
    simp [findP, hk, findP_core h.2]
theorem told_core {m m' : Memo} (h : m.l.map core = m'.l.map core) (k : ByteArray) (ver : Int) : (getM m k ver).2 = (getM m' k ver).2 := by
  unfold getM
  rw [findP_core h]
  cases findP k m'.l with
  | none => rfl
  | some i =>
    have hi : (m.l[i]?).map core = (m'.l[i]?).map core := by rw [← List.getElem?_map, ← List.getElem?_map, h]
    cases h1 : m.l[i]? with
    | none =>
      rw [h1] at hi
      cases h2 : m'.l[i]? with
      | none => simp only [h1, h2]
      | some q => rw [h2] at hi; cases hi
    | some p =>
      rw [h1] at hi
      cases h2 : m'.l[i]? with
      | none => rw [h2] at hi; cases hi
      | some q =>
        rw [h2] at hi
        simp only [Option.map_some, Option.some.injEq, core, Prod.mk.injEq] at hi
        obtain ⟨_, e2, e3⟩ := hi
        by_cases e : q.ver = ver
        · simp [h1, h2, e, e2, e3]
        · simp [h1, h2, e, e2]
theorem map_set_core {p q : Pl} : ∀ {l : List Pl} {i : Nat}, l[i]? = some p → core q = core p → (l.set i q).map core = l.map core
  | [], i, h, _ => by simp at h
  | x :: l, 0, h, e => by
    simp only [List.getElem?_cons_zero, Option.some.injEq] at h
    subst h
    simp [e]
  | x :: l, i + 1, h, e => by
    simp only [List.getElem?_cons_succ] at h
    simp [map_set_core h e]
theorem getM_core (m : Memo) (k : ByteArray) (ver : Int) : (getM m k ver).1.l.map core = m.l.map core := by
  unfold getM
  split
  · rfl
  · split
    · rfl
    · rename_i p hp
      split
      · exact map_set_core (q := { p with mark := true }) hp rfl
      · rfl
/-- The memo, asked; the reference's memo, as it was. -/
structure Both2 (w : World) (B gx : Nat) (pv u : Value) (m2 m : Memo) : Prop where
  memo : MemoAt w B (B + 1) B pv m2
  ref : RefAt w B u m.l
  box : Blk w gx 32 #[u, .int .i64 m.room, .int .i64 m.hand]
  low : B ≤ gx
  same : m2.l.map core = m.l.map core
theorem Both.two {w : World} {B gx : Nat} {pv u : Value} {m : Memo} (h : Both w B gx pv u m) : Both2 w B gx pv u m m := ⟨h.memo, h.ref, h.box, h.low, rfl⟩
theorem Both2.keep {w w' : World} {B gx : Nat} {pv u : Value} {m2 m : Memo} (h : Both2 w B gx pv u m2 m) (hb : Below w.heap.size w w') : Both2 w' B gx pv u m2 m :=
  ⟨h.memo.keep hb, h.ref.keep hb, h.box.keep hb, h.low, h.same⟩
theorem Both2.drew {w : World} {B gx : Nat} {pv u : Value} {m2 m : Memo} (h : Both2 w B gx pv u m2 m) : Both2 w.drew B gx pv u m2 m := h.keep (Below.refl _ _).drew
theorem Both2.got {w w' : World} {B gx : Nat} {pv u : Value} {m2 m : Memo} {k : ByteArray} {ver : Int} (h : Both2 w B gx pv u m2 m) (h' : MemoAt w' B (B + 1) B pv (getM m2 k ver).1) (hf : Fr w w' (MemoFp (B + 1) B pv)) : Both2 w' B gx pv u (getM m2 k ver).1 m :=
  ⟨h', h.ref.fr h.memo hf, box_fr h.box h.memo hf, h.low, (getM_core _ _ _).trans h.same⟩
theorem Both2.setg {w : World} {B gx g : Nat} {pv u p q r : Value} {m2 m : Memo} (h : Both2 w B gx pv u m2 m) (hg : Blk w g 32 #[p, q, r]) (hne : ¬ gx = g) (x y z : Value) :
    Both2 (((w.setCell ⟨g, 0, none⟩ x).setCell ⟨g, 1, none⟩ y).setCell ⟨g, 2, none⟩ z) B gx pv u m2 m := by
  have g0 := hg.set_ 0 x
  have g1 := g0.set_ 1 y
  exact ⟨memo_setc (memo_setc (memo_setc h.memo hg 0 _) g0 1 _) g1 2 _, ref_far h.ref hg, ((h.box.far (p := ⟨g, 0, none⟩) hne _).far (p := ⟨g, 1, none⟩) hne _).far (p := ⟨g, 2, none⟩) hne _, h.low, h.same⟩

/-- Behind act: both memos are new, the variable is old, the call's answer lies in a variable of its own. -/
structure Mid (w0 W : World) (B gx g : Nat) (pv u uo y z : Value) (m : Memo) : Prop where
  memo : MemoAt W B (B + 1) B pv m
  ref : RefAt W B u m.l
  box : Blk W gx 32 #[uo, y, z]
  res : Blk W g 32 #[u, .int .i64 m.room, .int .i64 m.hand]
  ne : ¬ gx = g
  be : Below w0.heap.size w0 W
  sz : B ≤ W.heap.size
theorem Mid.of_alloc {w0 w : World} {B gx : Nat} {pv u uo y z : Value} {m : Memo} (h1 : MemoAt w B (B + 1) B pv m) (h2 : RefAt w B u m.l) (h3 : Blk w gx 32 #[uo, y, z]) (h4 : Below w0.heap.size w0 w) (h5 : B ≤ w.heap.size) :
    Mid w0 (w.alloc (.cells #[u, .int .i64 m.room, .int .i64 m.hand] 32)) B gx w.heap.size pv u uo y z m := by
  have hb := (Below.refl w.heap.size w).alloc (Nat.le_refl _) (.cells #[u, .int .i64 m.room, .int .i64 m.hand] 32)
  exact ⟨h1.keep hb, h2.keep hb, h3.keep hb, Blk.new _ _ _, by have := h3.lt; omega, h4.alloc h4.size _, by simp; omega⟩
theorem Mid.of_set {w0 w : World} {B gx g : Nat} {pv u uo y z p q r : Value} {m : Memo} (h1 : MemoAt w B (B + 1) B pv m) (h2 : RefAt w B u m.l) (h3 : Blk w gx 32 #[uo, y, z]) (h4 : Below w0.heap.size w0 w) (h5 : B ≤ w.heap.size) (hg : Blk w g 32 #[p, q, r]) (hne : ¬ gx = g) (hlow : w0.heap.size ≤ g) :
    Mid w0 (((w.setCell ⟨g, 0, none⟩ u).setCell ⟨g, 1, none⟩ (.int .i64 m.room)).setCell ⟨g, 2, none⟩ (.int .i64 m.hand)) B gx g pv u uo y z m := by
  have g0 := hg.set_ 0 u
  have g1 := g0.set_ 1 (.int .i64 m.room)
  exact ⟨memo_setc (memo_setc (memo_setc h1 hg 0 _) g0 1 _) g1 2 _, ref_far h2 hg, ((h3.far (p := ⟨g, 0, none⟩) hne _).far (p := ⟨g, 1, none⟩) hne _).far (p := ⟨g, 2, none⟩) hne _, out_done hg, hne, below_set3 h4 hlow _ _ _, by simpa using h5⟩

theorem acts_keep {w0 w : World} {gx g b0 off i : Nat} {u y z : Value} {a : Act} {l : List Act} (H : RowAt Act.cells 4 w0 (some ⟨b0, off, none⟩) l) (ha : l[i]? = some a) (hb : Below w0.heap.size w0 w) (hX : Blk w gx 32 #[u, y, z]) (hne : ¬ gx = g) (hg : w0.heap.size ≤ g) (p q r : Value) :
    (((w.setCell ⟨g, 0, none⟩ p).setCell ⟨g, 1, none⟩ q).setCell ⟨g, 2, none⟩ r).cell? ⟨gx, 0, none⟩ = some u ∧ (((w.setCell ⟨g, 0, none⟩ p).setCell ⟨g, 1, none⟩ q).setCell ⟨g, 2, none⟩ r).cell? ⟨gx, 1, none⟩ = some y ∧ (((w.setCell ⟨g, 0, none⟩ p).setCell ⟨g, 1, none⟩ q).setCell ⟨g, 2, none⟩ r).cell? ⟨gx, 2, none⟩ = some z ∧
    (((w.setCell ⟨g, 0, none⟩ p).setCell ⟨g, 1, none⟩ q).setCell ⟨g, 2, none⟩ r).cell? ⟨b0, off + i * 4, none⟩ = some (.bool a.put) ∧ (((w.setCell ⟨g, 0, none⟩ p).setCell ⟨g, 1, none⟩ q).setCell ⟨g, 2, none⟩ r).cell? ⟨b0, off + i * 4 + 1, none⟩ = some (.string a.k) ∧ (((w.setCell ⟨g, 0, none⟩ p).setCell ⟨g, 1, none⟩ q).setCell ⟨g, 2, none⟩ r).cell? ⟨b0, off + i * 4 + 2, none⟩ = some (.int .i64 a.ver) ∧ (((w.setCell ⟨g, 0, none⟩ p).setCell ⟨g, 1, none⟩ q).setCell ⟨g, 2, none⟩ r).cell? ⟨b0, off + i * 4 + 3, none⟩ = some (.string a.v) := by
  have hX6 := ((hX.far (p := ⟨g, 0, none⟩) hne p).far (p := ⟨g, 1, none⟩) hne q).far (p := ⟨g, 2, none⟩) hne r
  obtain ⟨_, _, e6, k0, k1, k2, k3⟩ := act_at (H.keep (below_set3 hb hg p q r)) ha
  cases e6
  exact ⟨(hX6.cell 0).trans rfl, (hX6.cell 1).trans rfl, (hX6.cell 2).trans rfl, k0, k1, k2, k3⟩
theorem gets_keep {w0 w : World} {gx g b0 off i : Nat} {u y z : Value} {a : Act} {l : List Act} (H : RowAt Act.cells 4 w0 (some ⟨b0, off, none⟩) l) (ha : l[i]? = some a) (hb : Below w0.heap.size w0 w) (hX : Blk w gx 32 #[u, y, z]) (hne : ¬ gx = g) (hg : w0.heap.size ≤ g) (p q r : Value) :
    (((w.setCell ⟨g, 0, none⟩ p).setCell ⟨g, 1, none⟩ q).setCell ⟨g, 2, none⟩ r).cell? ⟨gx, 0, none⟩ = some u ∧ (((w.setCell ⟨g, 0, none⟩ p).setCell ⟨g, 1, none⟩ q).setCell ⟨g, 2, none⟩ r).cell? ⟨gx, 1, none⟩ = some y ∧ (((w.setCell ⟨g, 0, none⟩ p).setCell ⟨g, 1, none⟩ q).setCell ⟨g, 2, none⟩ r).cell? ⟨gx, 2, none⟩ = some z ∧
    (((w.setCell ⟨g, 0, none⟩ p).setCell ⟨g, 1, none⟩ q).setCell ⟨g, 2, none⟩ r).cell? ⟨b0, off + i * 4 + 1, none⟩ = some (.string a.k) ∧ (((w.setCell ⟨g, 0, none⟩ p).setCell ⟨g, 1, none⟩ q).setCell ⟨g, 2, none⟩ r).cell? ⟨b0, off + i * 4 + 2, none⟩ = some (.int .i64 a.ver) :=
  have h := acts_keep H ha hb hX hne hg p q r
  ⟨h.1, h.2.1, h.2.2.1, h.2.2.2.2.1, h.2.2.2.2.2.1⟩

set_option maxHeartbeats 2000000 in
set_option maxRecDepth 100000 in
theorem acts_calls (r : Int) (A : Option Addr) (c : Nat) (l : List Act) (w : World) (hr0 : 0 ≤ r) (hr1 : r ≤ 255) (h : RowAt Act.cells 4 w A l) (hlc : l.length ≤ maxLen) :
    Calls Try.prog 3 #[.int .u8 r, .slice A l.length c] w fun e w' => e = .returned (.bool true) ∧ Below w.heap.size w w' := by
  have H := Lib.hid h
  clear h
  go_enter Try.func3, Try.ntmps3
  go_wp2_with fail
  refine (awake_calls _).mono ?_
  rintro e w1 ⟨rfl, hb1⟩
  have HB1 := Lib.hid hb1
  have HR1 := Lib.hid (H.out.keep hb1)
  clear hb1
  go_wp2_with fail
  refine (few_calls A c l w1 HR1.out hlc).mono ?_
  rintro e w' ⟨b, rfl, hfew, rfl⟩
  have HF := Lib.hid hfew
  clear hfew
  cases b with
  | false =>
    go_wp2
    go_ret
    exact ⟨rfl, HB1.out⟩
  | true =>
    have hlen : l.length ≤ 40 := HF.out rfl
    go_wp2_with fail
    refine (new_ok (1 + r % 6) _ (by omega) (by omega)).mono ?_
    rintro e w2 ⟨rfl, hM2, hb2⟩
    have HM2 := Lib.hid hM2
    have HB2 := Lib.hid hb2
    clear hM2 hb2
    go_wp2_with fail
    refine (refNew_ok (1 + r % 6) _ (by omega) (by omega)).mono ?_
    rintro e w3 ⟨rfl, hb3⟩
    have hroom : ((1 + r % 6).toNat : Int) = 1 + r % 6 := by omega
    have hboth : Both (w3.alloc (.cells #[.slice none 0 0, .int .i64 (1 + r % 6), .int .i64 0] 32)) w1.heap.size w3.heap.size (.slice none 0 0) (.slice none 0 0) ⟨[], (1 + r % 6).toNat, 0⟩ := by
      refine ⟨(HM2.out.keep hb3).keep ((Below.refl _ _).alloc (Nat.le_refl _) _), ⟨rfl, .inl ⟨rfl, rfl⟩⟩, ?_, Nat.le_trans HB2.out.size hb3.size⟩
      show Blk _ _ _ #[.slice none 0 0, .int .i64 ((1 + r % 6).toNat : Int), .int .i64 0]
      rw [hroom]
      exact Blk.new _ _ _
    have hbel : Below w.heap.size w (w3.alloc (.cells #[.slice none 0 0, .int .i64 (1 + r % 6), .int .i64 0] 32)) :=
      (below_step (below_step HB1.out HB1.out.size HB2.out) (Nat.le_trans HB1.out.size HB2.out.size) hb3).alloc (Nat.le_trans HB1.out.size (Nat.le_trans HB2.out.size hb3.size)) _
    have HBO := Lib.hid hboth
    have HBE := Lib.hid hbel
    have HSZ := Lib.hid HB1.out.size
    have HS3 := Lib.hid (show w1.heap.size ≤ (w3.alloc (.cells #[.slice none 0 0, .int .i64 (1 + r % 6), .int .i64 0] 32)).heap.size by have := HB2.out.size; have := hb3.size; simp; omega)
    have HGX := Lib.hid (show w.heap.size ≤ w3.heap.size from Nat.le_trans HB1.out.size (Nat.le_trans HB2.out.size hb3.size))
    clear hboth hbel hb3
    go_wp2
    generalize w3.heap.size = gx at *
    generalize w3.alloc (.cells #[.slice none 0 0, .int .i64 (1 + r % 6), .int .i64 0] 32) = w4 at *
    clear hroom HM2 HB2
    go_loopg [10] l.length (fun n v10 w' => Hid (∃ (i : Nat) (pv u : Value) (m : Memo), v10 = .int .i64 i ∧ i ≤ l.length ∧ n = l.length - i ∧ Both w' w1.heap.size gx pv u m ∧ Below w.heap.size w w' ∧ w1.heap.size ≤ w'.heap.size))
    case atStart => exact ⟨0, _, _, _, rfl, Nat.zero_le _, rfl, HBO.out, HBE.out, HS3.out⟩
    case round =>
      obtain ⟨i, pv, u, m, rfl, hi, hn, hO, hB, hS⟩ := hrel.out
      clear hrel
      have HN := Lib.hid hn
      have HO := Lib.hid hO
      have HB := Lib.hid hB
      have HS := Lib.hid hS
      clear hn hO hB hS HBO HBE HS3
      by_cases hlt : i < l.length
      · obtain ⟨a, ha⟩ : ∃ a, l[i]? = some a := ⟨l[i]'hlt, List.getElem?_eq_getElem hlt⟩
        have HA := Lib.hid ha
        obtain ⟨b0, off, rfl, c0, c1, c2, c3⟩ := act_at (H.out.keep HB.out) ha
        clear ha
        go_wp2_with fail
        clear c0 c1 c2 c3
        refine (do_calls HO.out.memo HS.out a).mono ?_
        rintro e w3 ⟨rfl, ⟨pv3, hM3⟩, hF3⟩
        have hB3 := below_fr HB.out (Nat.le_trans HSZ.out HS.out) hF3 (fun i hi => Nat.le_trans HSZ.out (HO.out.memo.base_le i hi))
        have hS3 : w1.heap.size ≤ w3.heap.size := Nat.le_trans HS.out hF3.size
        have hR3 := HO.out.ref.fr HO.out.memo hF3
        have hX3 := box_fr HO.out.box HO.out.memo hF3
        obtain ⟨b0', off', e', c0, c1, c2, c3⟩ := act_at (H.out.keep hB3) HA.out
        cases e'
        have x0 := hX3.cell 0
        have x1 := hX3.cell 1
        have x2 := hX3.cell 2
        simp only [List.getElem?_toArray, List.getElem?_cons_zero, List.getElem?_cons_succ] at x0 x1 x2
        have hltI : (i : Int) < (l.length : Int) := by omega
        have HM3 := Lib.hid hM3
        have HB3 := Lib.hid hB3
        have HS3 := Lib.hid hS3
        have HR3 := Lib.hid hR3
        have HX3 := Lib.hid hX3
        clear hM3 hF3 hB3 hS3 hR3 hX3
        go_wp2_with fail
        have hok3 : m.Ok := HO.out.memo.ok
        have HOK := Lib.hid hok3
        clear hok3
        have hgx : gx < w3.heap.size := HX3.out.lt
        have hgx' : ¬ gx = w3.heap.size := by omega
        have hw3 : w.heap.size ≤ w3.heap.size := HB3.out.size
        go_region_held3 (fun w' => w'.cell? ⟨gx, 0, none⟩ = some u ∧ w'.cell? ⟨gx, 1, none⟩ = some (.int .i64 m.room) ∧ w'.cell? ⟨gx, 2, none⟩ = some (.int .i64 m.hand) ∧ w'.cell? ⟨b0, off + i * 4, none⟩ = some (.bool a.put) ∧ w'.cell? ⟨b0, off + i * 4 + 1, none⟩ = some (.string a.k) ∧ w'.cell? ⟨b0, off + i * 4 + 2, none⟩ = some (.int .i64 a.ver) ∧ w'.cell? ⟨b0, off + i * 4 + 3, none⟩ = some (.string a.v))
          (first | exact ⟨x0, x1, x2, c0, c1, c2, c3⟩ | exact ⟨x05, x15, x25, c05, c15, c25, c35⟩ | exact hK5 _ _ _ | go_keep)
          (first
            | (go_at_call 12; refine (act_calls (HR3.out.keep (Below.refl _ _).drew) HOK.out HS3.out a).mono ?_; rintro e w5 ⟨⟨u5, rfl, hr5⟩, hb5⟩; obtain ⟨A5, cap5, hu5⟩ := row_slice hr5; subst hu5; have hX5 := (HX3.out.keep (Below.refl _ _).drew).keep hb5; have x05 := hX5.cell 0; have x15 := hX5.cell 1; have x25 := hX5.cell 2; simp only [List.getElem?_toArray, List.getElem?_cons_zero, List.getElem?_cons_succ] at x05 x15 x25; have hB5 := below_step (HB3.out.drew) (Nat.le_trans HSZ.out HS3.out) hb5; obtain ⟨b5', off5', e5', c05, c15, c25, c35⟩ := act_at (H.out.keep hB5) HA.out; cases e5'; have HM5 := Lib.hid ((HM3.out.keep (Below.refl _ _).drew).keep hb5); have HR5 := Lib.hid hr5; have HX5 := Lib.hid hX5; have HB5 := Lib.hid hB5; have HS5 := Lib.hid hb5.size; clear hr5 hX5 hB5 hb5)
            | (go_at_call 12; refine (act_calls (HR3.out.keep ((Below.refl _ _).alloc (Nat.le_refl _) _).drew) HOK.out (Nat.le_trans HS3.out (by simp)) a).mono ?_; rintro e w5 ⟨⟨u5, rfl, hr5⟩, hb5⟩; obtain ⟨A5, cap5, hu5⟩ := row_slice hr5; subst hu5; have hX5 := (HX3.out.keep ((Below.refl _ _).alloc (Nat.le_refl _) _).drew).keep hb5; have x05 := hX5.cell 0; have x15 := hX5.cell 1; have x25 := hX5.cell 2; simp only [List.getElem?_toArray, List.getElem?_cons_zero, List.getElem?_cons_succ] at x05 x15 x25; have hB5 := below_step ((HB3.out.alloc (Nat.le_trans HSZ.out HS3.out) _).drew) (Nat.le_trans HSZ.out (Nat.le_trans HS3.out (by simp))) hb5; obtain ⟨b5', off5', e5', c05, c15, c25, c35⟩ := act_at (H.out.keep hB5) HA.out; cases e5'; have HM5 := Lib.hid ((HM3.out.keep ((Below.refl _ _).alloc (Nat.le_refl _) _).drew).keep hb5); have hG5 := (Blk.new w3 _ _).drew.keep hb5; have hK5 := acts_keep H.out HA.out hB5 hX5 hgx' hw3; have t0 := hG5.cell 0; have t1 := hG5.cell 1; have t2 := hG5.cell 2; have ft0 := hG5.frozen 0; have ft1 := hG5.frozen 1; have ft2 := hG5.frozen 2; simp only [List.getElem?_toArray, List.getElem?_cons_zero, List.getElem?_cons_succ] at t0 t1 t2; have HG5 := Lib.hid hG5; clear hG5; have HR5 := Lib.hid hr5; have HX5 := Lib.hid hX5; have HB5 := Lib.hid hB5; have HS5 := Lib.hid hb5.size; clear hr5 hX5 hB5 hb5))
        all_goals first
          | (have hmid : Mid w (((w5.setCell ⟨w3.heap.size, 0, none⟩ (.slice A5 (doM m a).1.l.length cap5)).setCell ⟨w3.heap.size, 1, none⟩ (.int .i64 (doM m a).1.room)).setCell ⟨w3.heap.size, 2, none⟩ (.int .i64 (doM m a).1.hand)) w1.heap.size gx w3.heap.size pv3 (.slice A5 (doM m a).1.l.length cap5) u (.int .i64 m.room) (.int .i64 m.hand) (doM m a).1 := Mid.of_set HM5.out HR5.out HX5.out HB5.out (Nat.le_trans HS3.out (Nat.le_trans (by simp) HS5.out)) HG5.out hgx' hw3
             generalize ((w5.setCell ⟨w3.heap.size, 0, none⟩ (.slice A5 (doM m a).1.l.length cap5)).setCell ⟨w3.heap.size, 1, none⟩ (.int .i64 (doM m a).1.room)).setCell ⟨w3.heap.size, 2, none⟩ (.int .i64 (doM m a).1.hand) = W at hmid ⊢
             generalize w3.heap.size = g13 at hmid ⊢
             have HMID := Lib.hid hmid
             clear hmid HG5)
          | (have hmid : Mid w (w5.alloc (.cells #[.slice A5 (doM m a).1.l.length cap5, .int .i64 (doM m a).1.room, .int .i64 (doM m a).1.hand] 32)) w1.heap.size gx w5.heap.size pv3 (.slice A5 (doM m a).1.l.length cap5) u (.int .i64 m.room) (.int .i64 m.hand) (doM m a).1 := Mid.of_alloc HM5.out HR5.out HX5.out HB5.out (Nat.le_trans HS3.out HS5.out)
             generalize w5.alloc (.cells #[.slice A5 (doM m a).1.l.length cap5, .int .i64 (doM m a).1.room, .int .i64 (doM m a).1.hand] 32) = W at hmid ⊢
             generalize w5.heap.size = g13 at hmid ⊢
             have HMID := Lib.hid hmid
             clear hmid)
        all_goals (
          have hne := HMID.out.ne
          have hne' : ¬ g13 = gx := fun e => hne e.symm
          have z0 := HMID.out.res.cell 0
          have z1 := HMID.out.res.cell 1
          have z2 := HMID.out.res.cell 2
          have y0 := HMID.out.box.cell 0
          have y1 := HMID.out.box.cell 1
          have y2 := HMID.out.box.cell 2
          have fy0 := HMID.out.box.frozen 0
          have fy1 := HMID.out.box.frozen 1
          have fy2 := HMID.out.box.frozen 2
          simp only [List.getElem?_toArray, List.getElem?_cons_zero, List.getElem?_cons_succ] at z0 z1 z2 y0 y1 y2
          clear HM5 HR5 HX5 HB5 HS5 HM3 HB3 HS3 HR3 HX3
          have hdone : Both (((W.setCell ⟨gx, 0, none⟩ (.slice A5 (doM m a).1.l.length cap5)).setCell ⟨gx, 1, none⟩ (.int .i64 (doM m a).1.room)).setCell ⟨gx, 2, none⟩ (.int .i64 (doM m a).1.hand)) w1.heap.size gx pv3 (.slice A5 (doM m a).1.l.length cap5) (doM m a).1 := both_set HMID.out.memo HMID.out.ref HMID.out.box HO.out.low
          have HDONE := Lib.hid hdone
          clear hdone
          have hbq := str_beq_true (rfl : (doM m a).2.1 = (doM m a).2.1)
          go_wp2
          have hbe6 : Below w.heap.size w (((W.setCell ⟨gx, 0, none⟩ (.slice A5 (doM m a).1.l.length cap5)).setCell ⟨gx, 1, none⟩ (.int .i64 (doM m a).1.room)).setCell ⟨gx, 2, none⟩ (.int .i64 (doM m a).1.hand)) := below_set3 HMID.out.be HGX.out _ _ _
          have hsz6 : w1.heap.size ≤ (((W.setCell ⟨gx, 0, none⟩ (.slice A5 (doM m a).1.l.length cap5)).setCell ⟨gx, 1, none⟩ (.int .i64 (doM m a).1.room)).setCell ⟨gx, 2, none⟩ (.int .i64 (doM m a).1.hand)).heap.size := by simpa using HMID.out.sz
          generalize ((W.setCell ⟨gx, 0, none⟩ (.slice A5 (doM m a).1.l.length cap5)).setCell ⟨gx, 1, none⟩ (.int .i64 (doM m a).1.room)).setCell ⟨gx, 2, none⟩ (.int .i64 (doM m a).1.hand) = W6 at HDONE hbe6 hsz6 ⊢
          have HBE6 := Lib.hid hbe6
          have HSZ6 := Lib.hid hsz6
          have x6 := HDONE.out.box.cell 0
          simp only [List.getElem?_toArray, List.getElem?_cons_zero, List.getElem?_cons_succ] at x6
          clear hbe6 hsz6 z0 z1 z2 y0 y1 y2 fy0 fy1 fy2 hne hne' c0 c1 c2 c3 x0 x1 x2 HMID
          generalize (doM m a).2.1 = v at hbq ⊢
          generalize (doM m a).2.2 = ok at ⊢
          go_quiet (first | (go_at_call 13; refine Calls.quiet_of_same ((len_calls (HDONE.out.memo.keep (below_drewN _ _))).mono fun e w' h => ⟨h.1, h.2.symm⟩)))
          go_wp2
          go_roundg (l.length - (i + 1))
          case measure => have := HN.out; omega
          case rel => exact ⟨i + 1, pv3, _, (doM m a).1, by simp, by omega, rfl, HDONE.out.keep (below_drewN _ _), HBE6.out.drewN _, HSZ6.out⟩)
      · go_wp2
        clear hi hlt HN
        go_loopg [16] l.length (fun n v16 w' => Hid (∃ (i : Nat) (pv2 : Value) (m2 : Memo), v16 = .int .i64 i ∧ i ≤ l.length ∧ n = l.length - i ∧ Both2 w' w1.heap.size gx pv2 u m2 m ∧ Below w.heap.size w w' ∧ w1.heap.size ≤ w'.heap.size))
        case atStart => exact ⟨0, _, _, rfl, Nat.zero_le _, rfl, HO.out.two, HB.out, HS.out⟩
        case round =>
          have HOK := Lib.hid HO.out.memo.ok
          obtain ⟨i, pv2, m2, rfl, hi, hn, hO, hB, hS⟩ := hrel.out
          clear hrel HO HB HS
          have HN := Lib.hid hn
          have HO := Lib.hid hO
          have HB := Lib.hid hB
          have HS := Lib.hid hS
          clear hn hO hB hS
          by_cases hlt : i < l.length
          · obtain ⟨a, ha⟩ : ∃ a, l[i]? = some a := ⟨l[i]'hlt, List.getElem?_eq_getElem hlt⟩
            have HA := Lib.hid ha
            obtain ⟨b0, off, rfl, c0, c1, c2, c3⟩ := act_at (H.out.keep HB.out) ha
            clear ha
            go_wp2
            have hltI : (i : Int) < (l.length : Int) := by omega
            go_region_held3 (fun w' => w'.cell? ⟨b0, off + i * 4 + 1, none⟩ = some (.string a.k) ∧ w'.cell? ⟨b0, off + i * 4 + 2, none⟩ = some (.int .i64 a.ver)) (first | exact ⟨c1, c2⟩ | exact ⟨c14, c24⟩)
              (first | (go_at_call 14; refine (get_calls (HO.out.memo.drew) _ _).mono ?_; rintro e w4 ⟨rfl, hM4, hF4⟩; have hO4 := HO.out.drew.got hM4 hF4; have hB4 := below_fr HB.out.drew (Nat.le_trans HSZ.out HS.out) hF4 (fun i hi => Nat.le_trans HSZ.out (HO.out.memo.base_le i hi)); obtain ⟨b4, off4, e4, _, c14, c24, _⟩ := act_at (H.out.keep hB4) HA.out; cases e4; have HO4 := Lib.hid hO4; have HB4 := Lib.hid hB4; have HS4 := Lib.hid hF4.size; clear hO4 hB4 hM4 hF4))
            rw [told_core HO.out.same]
            have hs4 : w1.heap.size ≤ w4.heap.size := Nat.le_trans HS.out (by have := HS4.out; simpa using this)
            have hgx : gx < w4.heap.size := HO4.out.box.lt
            have hgx' : ¬ gx = w4.heap.size := by omega
            have hw4 : w.heap.size ≤ w4.heap.size := HB4.out.size
            have x0 := HO4.out.box.cell 0
            have x1 := HO4.out.box.cell 1
            have x2 := HO4.out.box.cell 2
            simp only [List.getElem?_toArray, List.getElem?_cons_zero, List.getElem?_cons_succ] at x0 x1 x2
            go_wp2
            go_region_held3 (fun w' => w'.cell? ⟨gx, 0, none⟩ = some u ∧ w'.cell? ⟨gx, 1, none⟩ = some (.int .i64 m.room) ∧ w'.cell? ⟨gx, 2, none⟩ = some (.int .i64 m.hand) ∧ w'.cell? ⟨b0, off + i * 4 + 1, none⟩ = some (.string a.k) ∧ w'.cell? ⟨b0, off + i * 4 + 2, none⟩ = some (.int .i64 a.ver))
              (first | exact ⟨x0, x1, x2, c14, c24⟩ | exact ⟨x05, x15, x25, c15, c25⟩ | exact hK5 _ _ _ | go_keep)
              (first
                | (go_at_call 15; refine (refGet_calls (HO4.out.ref.keep (Below.refl _ _).drew) HOK.out hs4 a.k a.ver).mono ?_; rintro e w5 ⟨⟨u5, rfl, hr5⟩, hb5⟩; obtain ⟨A5, cap5, hu5⟩ := row_slice hr5; subst hu5; have hO5 := (HO4.out.keep (Below.refl _ _).drew).keep hb5; have x05 := hO5.box.cell 0; have x15 := hO5.box.cell 1; have x25 := hO5.box.cell 2; simp only [List.getElem?_toArray, List.getElem?_cons_zero, List.getElem?_cons_succ] at x05 x15 x25; have hB5 := below_step (HB4.out.drew) (Nat.le_trans HSZ.out hs4) hb5; obtain ⟨b5', off5', e5', _, c15, c25, _⟩ := act_at (H.out.keep hB5) HA.out; cases e5'; have HO5 := Lib.hid hO5; have HB5 := Lib.hid hB5; have HS5 := Lib.hid hb5.size; clear hr5 hO5 hB5 hb5)
                | (go_at_call 15; refine (refGet_calls (HO4.out.ref.keep ((Below.refl _ _).alloc (Nat.le_refl _) _).drew) HOK.out (Nat.le_trans hs4 (by simp)) a.k a.ver).mono ?_; rintro e w5 ⟨⟨u5, rfl, hr5⟩, hb5⟩; obtain ⟨A5, cap5, hu5⟩ := row_slice hr5; subst hu5; have hO5 := (HO4.out.keep ((Below.refl _ _).alloc (Nat.le_refl _) _).drew).keep hb5; have x05 := hO5.box.cell 0; have x15 := hO5.box.cell 1; have x25 := hO5.box.cell 2; simp only [List.getElem?_toArray, List.getElem?_cons_zero, List.getElem?_cons_succ] at x05 x15 x25; have hB5 := below_step ((HB4.out.alloc (Nat.le_trans HSZ.out hs4) _).drew) (Nat.le_trans HSZ.out (Nat.le_trans hs4 (by simp))) hb5; obtain ⟨b5', off5', e5', _, c15, c25, _⟩ := act_at (H.out.keep hB5) HA.out; cases e5'; have hG5 := (Blk.new w4 _ _).drew.keep hb5; have hK5 := gets_keep H.out HA.out hB5 hO5.box hgx' hw4; have t0 := hG5.cell 0; have t1 := hG5.cell 1; have t2 := hG5.cell 2; have ft0 := hG5.frozen 0; have ft1 := hG5.frozen 1; have ft2 := hG5.frozen 2; simp only [List.getElem?_toArray, List.getElem?_cons_zero, List.getElem?_cons_succ] at t0 t1 t2; have HG5 := Lib.hid hG5; clear hG5; have HO5 := Lib.hid hO5; have HB5 := Lib.hid hB5; have HS5 := Lib.hid hb5.size; clear hr5 hO5 hB5 hb5))
            all_goals first
              | (have hfin := HO5.out.setg HG5.out hgx' (.slice A5 (getM m a.k a.ver).1.l.length cap5) (.int .i64 (getM m a.k a.ver).1.room) (.int .i64 (getM m a.k a.ver).1.hand)
                 have hbe := below_set3 HB5.out hw4 (.slice A5 (getM m a.k a.ver).1.l.length cap5) (.int .i64 (getM m a.k a.ver).1.room) (.int .i64 (getM m a.k a.ver).1.hand)
                 have hsz : w1.heap.size ≤ (((w5.setCell ⟨w4.heap.size, 0, none⟩ (.slice A5 (getM m a.k a.ver).1.l.length cap5)).setCell ⟨w4.heap.size, 1, none⟩ (.int .i64 (getM m a.k a.ver).1.room)).setCell ⟨w4.heap.size, 2, none⟩ (.int .i64 (getM m a.k a.ver).1.hand)).heap.size := by have := HS5.out; simp at this ⊢; omega
                 generalize ((w5.setCell ⟨w4.heap.size, 0, none⟩ (.slice A5 (getM m a.k a.ver).1.l.length cap5)).setCell ⟨w4.heap.size, 1, none⟩ (.int .i64 (getM m a.k a.ver).1.room)).setCell ⟨w4.heap.size, 2, none⟩ (.int .i64 (getM m a.k a.ver).1.hand) = W at hfin hbe hsz ⊢
                 clear HG5)
              | (have hfin := HO5.out.keep ((Below.refl _ _).alloc (Nat.le_refl _) (.cells #[.slice A5 (getM m a.k a.ver).1.l.length cap5, .int .i64 (getM m a.k a.ver).1.room, .int .i64 (getM m a.k a.ver).1.hand] 32))
                 have hbe := HB5.out.alloc HB5.out.size (.cells #[.slice A5 (getM m a.k a.ver).1.l.length cap5, .int .i64 (getM m a.k a.ver).1.room, .int .i64 (getM m a.k a.ver).1.hand] 32)
                 have hsz : w1.heap.size ≤ (w5.alloc (.cells #[.slice A5 (getM m a.k a.ver).1.l.length cap5, .int .i64 (getM m a.k a.ver).1.room, .int .i64 (getM m a.k a.ver).1.hand] 32)).heap.size := by have := HS5.out; simp at this ⊢; omega
                 generalize w5.alloc (.cells #[.slice A5 (getM m a.k a.ver).1.l.length cap5, .int .i64 (getM m a.k a.ver).1.room, .int .i64 (getM m a.k a.ver).1.hand] 32) = W at hfin hbe hsz ⊢)
            all_goals (
              have HFIN := Lib.hid hfin
              have HBE := Lib.hid hbe
              have HSF := Lib.hid hsz
              clear hfin hbe hsz x0 x1 x2 c14 c24 hs4 hgx hgx' hw4
              generalize (getM m a.k a.ver).2.1 = v at ⊢
              generalize (getM m a.k a.ver).2.2 = ok at ⊢
              have hbq := str_beq_true (rfl : v = v)
              go_wp2
              go_roundg (l.length - (i + 1))
              case measure => have := HN.out; omega
              case rel => exact ⟨i + 1, pv2, _, by simp, by omega, rfl, HFIN.out, HBE.out, HSF.out⟩)
          · go_wp2
            go_ret
            exact ⟨rfl, HB.out⟩
end Go.Proofs.Ytjnghgalniapjaa
