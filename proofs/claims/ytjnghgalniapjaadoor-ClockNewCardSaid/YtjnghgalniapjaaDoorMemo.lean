/- The memo of the program: what each call tells, and what it leaves, by the plain lists of MemoPure. -/
import Derived.Test.YtjnghgalniapjaaDoorProg
import Derived.Test.YtjnghgalniapjaaDoorBase
import Derived.Test.YtjnghgalniapjaaDoorErr
import Derived.Test.YtjnghgalniapjaaDoorMemoPure
import Derived.WalkSpells
import Derived.WalkLawsBesides
import Derived.StillTailTactics
import Derived.Deep.QuietTactic
import Derived.BigQuiet
import Derived.Deep.LoopGhost
import Derived.Deep.RegionLaw
import Derived.Deep.DeepFit
set_option linter.unusedSimpArgs false
set_option linter.unusedVariables false
namespace Go.Proofs.YtjnghgalniapjaaDoor
open Go.RowKit

def Pl.cells (p : Pl) : List Value := [.string p.k, .int .i64 p.ver, .string p.v, .bool p.mark]
theorem pl_len (p : Pl) : p.cells.length = 4 := rfl

/-- A memo behind a pointer to block b: its places in the row pv, its map in block mb, all from block base on. -/
structure MemoAt (w : World) (base b mb : Nat) (pv : Value) (m : Memo) : Prop where
  ok : m.Ok
  bb : base ≤ b
  bm : base ≤ mb
  blk : Blk w b 45 #[pv, .int .i64 m.room, .int .i64 m.hand, .map (some mb)]
  row : w.ownsRow base 49 4 pv m.l.length (m.l.flatMap Pl.cells)
  map : ∃ kvs, MapK Value.string w mb kvs ∧ Idx kvs fun k => (findP k m.l).map fun i : Nat => Value.int .i64 (i : Int)
def MemoFp (b mb : Nat) (pv : Value) (i : Nat) : Prop := i = b ∨ i = mb ∨ pv.ownBlock = some i

theorem MemoAt.base_le {w : World} {base b mb : Nat} {pv : Value} {m : Memo} (h : MemoAt w base b mb pv m) : ∀ i, MemoFp b mb pv i → base ≤ i := by
  rintro i (rfl | rfl | hi)
  · exact h.bb
  · exact h.bm
  · exact (row_blk h.row hi).1
theorem MemoAt.keep {w w' : World} {base b mb : Nat} {pv : Value} {m : Memo} (h : MemoAt w base b mb pv m) (hb : Below w.heap.size w w') : MemoAt w' base b mb pv m := by
  obtain ⟨kvs, h1, h2⟩ := h.map
  exact ⟨h.ok, h.bb, h.bm, h.blk.keep hb, row_below h.row hb, ⟨kvs, h1.keep hb, h2⟩⟩

theorem MemoAt.fp_lt {w : World} {base b mb : Nat} {pv : Value} {m : Memo} (h : MemoAt w base b mb pv m) : ∀ i, MemoFp b mb pv i → i < w.heap.size := by
  rintro i (rfl | rfl | hi)
  · exact h.blk.lt
  · obtain ⟨kvs, h1, _⟩ := h.map
    exact h1.lt
  · obtain ⟨_, cur, hc⟩ := row_blk h.row hi
    exact hc.lt
theorem len_nil (w : World) : Calls Tryd.prog 8 #[.pointer none] w fun e w' => e = .returned (.int .i64 0) ∧ w = w' := by
  go_enter Tryd.func8, Tryd.ntmps8
  go_wp2
  go_ret
  exact ⟨rfl, rfl⟩
theorem len_calls {w : World} {base b mb : Nat} {pv : Value} {m : Memo} (h : MemoAt w base b mb pv m) :
    Calls Tryd.prog 8 #[.pointer (some ⟨b, 0, none⟩)] w fun e w' => e = .returned (.int .i64 m.l.length) ∧ w = w' := by
  obtain ⟨A, cap, hpv⟩ := row_slice h.row
  have c0 : w.cell? ⟨b, 0, none⟩ = some (.slice A m.l.length cap) := by rw [h.blk.cell, ← hpv]; rfl
  clear h hpv
  go_enter Tryd.func8, Tryd.ntmps8
  go_wp2
  go_ret
  exact ⟨rfl, rfl⟩

theorem get_nil (k : ByteArray) (ver : Int) (w : World) : Calls Tryd.prog 10 #[.pointer none, .string k, .int .i64 ver] w fun e w' => e = .returned (.tuple #[.string ⟨#[]⟩, .bool false]) ∧ w = w' := by
  go_enter Tryd.func10, Tryd.ntmps10
  go_wp2
  go_ret2
  exact ⟨rfl, rfl⟩
theorem put_nil (k v : ByteArray) (ver : Int) (w : World) : Calls Tryd.prog 9 #[.pointer none, .string k, .int .i64 ver, .string v] w fun e w' => e = .returned (.tuple #[]) ∧ w = w' := by
  go_enter Tryd.func9, Tryd.ntmps9
  go_wp2
  refine bodyPost_ret (results_none rfl _ _ _) rfl ?_
  exact ⟨rfl, rfl⟩

theorem new_ok (r : Int) (w : World) (h1 : 1 ≤ r) (h2 : r ≤ 4096) :
    Calls Tryd.prog 5 #[.int .i64 r] w fun e w' => e = .returned (.tuple #[.pointer (some ⟨w.heap.size + 1, 0, none⟩), .nilIface]) ∧ MemoAt w' w.heap.size (w.heap.size + 1) w.heap.size (.slice none 0 0) ⟨[], r.toNat, 0⟩ ∧ Below w.heap.size w w' := by
  have hmm := @run_makeMap Tryd.prog
  go_enter Tryd.func5, Tryd.ntmps5
  go_wp2
  go_ret2
  refine ⟨rfl, ?_, ((Below.refl _ _).alloc (Nat.le_refl _) _).alloc (by simp) _⟩
  have hr : ((r.toNat : Nat) : Int) = r := by omega
  refine ⟨⟨by show 1 ≤ r.toNat; omega, by show r.toNat ≤ 4096; omega, by simp, by show 0 < r.toNat; omega, by simp⟩, by omega, by omega, ?_, World.ownsRow_nil _ _ _ _, ⟨[], (MapK.new _ w).alloc _, Idx.nil.congr fun k => by simp [findP]⟩⟩
  rw [hr]
  have := Blk.new (w.alloc (.map #[] 0)) 45 #[.slice none 0 0, .int .i64 r, .int .i64 0, .map (some w.heap.size)]
  simpa using this

theorem new_bad (r : Int) (w : World) (h : r < 1 ∨ 4096 < r) :
    Calls Tryd.prog 5 #[.int .i64 r] w fun e w' => ∃ v, e = .returned (.tuple #[.pointer none, v]) ∧ Chain w' [⟨#[99, 108, 111, 99, 107]⟩] v 1 ∧ Below w.heap.size w w' := by
  have fin : ∀ s, Chain (w.alloc (.cells #[.string s, .iface 33 (.int .i64 1)] 57)) [s] (.iface 55 (.pointer (some ⟨w.heap.size, 0, none⟩))) 1 := fun s =>
    .fail _ _ _ _ _ (heap_alloc_new w _) (.num 1)
  have FIN := Lib.hid fin
  clear fin
  by_cases h1 : r < 1
  · clear h
    go_enter Tryd.func5, Tryd.ntmps5
    go_wp2_with (go_at_call 12; refine (wrap_some _ _ _ _).mono ?_; rintro e w' ⟨rfl, rfl⟩)
    go_ret2
    exact ⟨_, rfl, FIN.out _, (Below.refl _ _).alloc (Nat.le_refl _) _⟩
  · have h2 : 4096 < r := by omega
    clear h
    go_enter Tryd.func5, Tryd.ntmps5
    go_wp2_with (go_at_call 12; refine (wrap_some _ _ _ _).mono ?_; rintro e w' ⟨rfl, rfl⟩)
    go_ret2
    exact ⟨_, rfl, FIN.out _, (Below.refl _ _).alloc (Nat.le_refl _) _⟩
theorem place_at {w : World} {base b mb : Nat} {pv : Value} {m : Memo} (h : MemoAt w base b mb pv m) {i : Nat} {p : Pl} (hi : m.l[i]? = some p) :
    ∃ g cap, pv = .slice (some ⟨g, 0, none⟩) m.l.length cap ∧ w.cell? ⟨g, i * 4, none⟩ = some (.string p.k) ∧ w.cell? ⟨g, i * 4 + 1, none⟩ = some (.int .i64 p.ver) ∧ w.cell? ⟨g, i * 4 + 2, none⟩ = some (.string p.v) ∧ w.cell? ⟨g, i * 4 + 3, none⟩ = some (.bool p.mark) ∧ ∀ j, w.frozen? ⟨g, j, none⟩ = false := by
  have hl := (List.getElem?_eq_some_iff.1 hi).1
  obtain ⟨g, cap, cur, hv, _, _, _, _, hc, hf⟩ := row_form h.row (by omega)
  refine ⟨g, cap, hv, ?_, ?_, ?_, ?_, hf⟩
  · exact hc _ _ ((flat_get pl_len m.l i 0 p hi (by omega)).trans rfl)
  · exact hc _ _ ((flat_get pl_len m.l i 1 p hi (by omega)).trans rfl)
  · exact hc _ _ ((flat_get pl_len m.l i 2 p hi (by omega)).trans rfl)
  · exact hc _ _ ((flat_get pl_len m.l i 3 p hi (by omega)).trans rfl)

/-- A place's field is written. -/
theorem MemoAt.set_ {w : World} {base b mb g cap : Nat} {m : Memo} (h : MemoAt w base b mb (.slice (some ⟨g, 0, none⟩) m.l.length cap) m) {i j : Nat} {p q : Pl} {u : Value} (hi : m.l[i]? = some p) (hj : j < 4) (hq : q.cells = p.cells.set j u) (hk : p.k = q.k) :
    MemoAt (w.setCell ⟨g, i * 4 + j, none⟩ u) base b mb (.slice (some ⟨g, 0, none⟩) m.l.length cap) { m with l := m.l.set i q } := by
  obtain ⟨kvs, h1, h2⟩ := h.map
  obtain ⟨_, cur, hg⟩ := row_blk h.row (g := g) rfl
  have hbg : b ≠ g := h.blk.ne_ hg (by decide)
  have hmg : mb ≠ g := h1.ne_blk hg
  have hl : (m.l.set i q).length = m.l.length := by simp
  refine ⟨⟨h.ok.lo, h.ok.hi, by simpa using h.ok.len, h.ok.hand, by show (List.map _ (m.l.set _ q)).Nodup; rw [keys_set hi hk]; exact h.ok.nodup⟩, h.bb, h.bm, h.blk.far hbg _, ?_, kvs, h1.far hmg _, ?_⟩
  · show (w.setCell _ u).ownsRow base _ 4 _ (m.l.set i q).length _
    rw [hl]
    have := row_set (c := i * 4 + j) (u := u) h.row
    rwa [flat_set pl_len m.l i j p q u hi hj hq] at this
  · exact h2.congr fun k => by show _ = Option.map _ (findP k (m.l.set i q)); rw [findP_set hi hk]

set_option maxRecDepth 100000 in
theorem get_calls {w : World} {base b mb : Nat} {pv : Value} {m : Memo} (h : MemoAt w base b mb pv m) (k : ByteArray) (ver : Int) :
    Calls Tryd.prog 10 #[.pointer (some ⟨b, 0, none⟩), .string k, .int .i64 ver] w fun e w' =>
      e = .returned (.tuple #[.string (getM m k ver).2.1, .bool (getM m k ver).2.2]) ∧ MemoAt w' base b mb pv (getM m k ver).1 ∧ Fr w w' (MemoFp b mb pv) := by
  obtain ⟨kvs, hm1, hm2⟩ := h.map
  have hlook := run_lookK (P := Tryd.prog) (d := .string) (kf := Value.string) true Tryd.underlying42 Tryd.underlying9 (z := .int .i64 0) (by kernel_rfl) hm1 k
  have e2 : lookK k kvs = (findP k m.l).map fun i : Nat => Value.int .i64 (i : Int) := hm2.2 k
  rw [e2] at hlook
  clear e2
  have c3 : w.cell? ⟨b, 3, none⟩ = some (.map (some mb)) := by rw [h.blk.cell]; rfl
  have c0 : w.cell? ⟨b, 0, none⟩ = some pv := by rw [h.blk.cell]; rfl
  have H := Lib.hid h
  cases hf : findP k m.l with
  | none =>
    have fin : getM m k ver = (m, ⟨#[]⟩, false) := by simp [getM, hf]
    rw [fin]
    rw [hf] at hlook
    simp only [Option.map_none, Option.getD_none, Option.isSome_none, if_true] at hlook
    clear fin hf hm1 hm2 h c0
    go_enter Tryd.func10, Tryd.ntmps10
    go_wp2
    go_ret2
    exact ⟨rfl, H.out, Fr.refl _ _⟩
  | some i =>
    obtain ⟨p, hp, hk⟩ := findP_some hf
    have hi := (List.getElem?_eq_some_iff.1 hp).1
    rw [hf] at hlook
    simp only [Option.map_some, Option.getD_some, Option.isSome_some, if_true] at hlook
    obtain ⟨g, cap, rfl, d0, d1, d2, d3, hfz⟩ := place_at h hp
    have f3 := hfz (i * 4 + 3)
    obtain ⟨_, cur, hgb⟩ := row_blk h.row (g := g) rfl
    have hbg : ¬ b = g := h.blk.ne_ hgb (by decide)
    have hgb' : ¬ g = b := fun e => hbg e.symm
    clear hgb
    have HP := Lib.hid hp
    by_cases hv : p.ver = ver
    · have fin : getM m k ver = ({ m with l := m.l.set i { p with mark := true } }, p.v, true) := by simp [getM, hf, hp, hv]
      rw [fin]
      have d1' : w.cell? ⟨g, i * 4 + 1, none⟩ = some (.int .i64 ver) := by rw [d1, hv]
      clear fin hf hm1 hm2 h d0 hfz hp hk d1 hv
      go_enter Tryd.func10, Tryd.ntmps10
      go_wp2
      go_ret2
      exact ⟨rfl, H.out.set_ HP.out (by omega) rfl rfl, (Fr.refl _ _).setCell (.inl (.inr (.inr rfl))) _⟩
    · have fin : getM m k ver = (m, ⟨#[]⟩, false) := by simp [getM, hf, hp, hv]
      rw [fin]
      have hne : (p.ver != ver) = true := by simpa using hv
      clear fin hf hm1 hm2 h d0 d3 hfz hp hk hv d2 f3
      go_enter Tryd.func10, Tryd.ntmps10
      go_wp2
      go_ret2
      exact ⟨rfl, H.out, Fr.refl _ _⟩
theorem sweep_go {room n : Nat} {l : List Pl} {h : Nat} {p : Pl} (hp : l[h]? = some p) (hm : p.mark = true) : sweep room (n + 1) l h = sweep room n (l.set h { p with mark := false }) ((h + 1) % room) := by
  simp [sweep, hp, hm]
theorem sweep_stop {room n : Nat} {l : List Pl} {h : Nat} {p : Pl} (hp : l[h]? = some p) (hm : p.mark = false) : sweep room (n + 1) l h = (l, h) := by
  simp [sweep, hp, hm]

theorem hand_rem (h r : Nat) (hh : h < r) (hr : r ≤ 4096) : (IntKind.i64.wrap ((h : Int) + 1)).tmod (r : Int) = (((h + 1) % r : Nat) : Int) := by
  rw [Go.IntWalk.i64_in _ (by omega), Int.tmod_eq_emod_of_nonneg (by omega)]
  push_cast
  rfl

/-- The hand is moved. -/
theorem MemoAt.hand_ {w : World} {base b mb : Nat} {pv : Value} {m : Memo} (h : MemoAt w base b mb pv m) {i : Nat} (hi : i < m.room) :
    MemoAt (w.setCell ⟨b, 2, none⟩ (.int .i64 i)) base b mb pv { m with hand := i } := by
  obtain ⟨kvs, h1, h2⟩ := h.map
  refine ⟨⟨h.ok.lo, h.ok.hi, h.ok.len, hi, h.ok.nodup⟩, h.bb, h.bm, ?_, ?_, kvs, h1.far (h1.ne_blk h.blk) _, h2⟩
  · have := h.blk.set_ 2 (.int .i64 i)
    simpa using this
  · refine row_keep h.row fun g hg => Below.heap_setCell _ _ _ _ ?_
    obtain ⟨_, cur, hc⟩ := row_blk h.row hg
    exact fun e => (hc.ne_ h.blk (by decide)) e
theorem MemoAt.drew {w : World} {base b mb : Nat} {pv : Value} {m : Memo} (h : MemoAt w base b mb pv m) : MemoAt w.drew base b mb pv m :=
  h.keep ((Below.refl _ _).drew)

set_option maxRecDepth 100000 in
theorem victim_calls {w : World} {base b mb : Nat} {pv : Value} {m : Memo} (h : MemoAt w base b mb pv m) (hfull : m.l.length = m.room) :
    Calls Tryd.prog 14 #[.pointer (some ⟨b, 0, none⟩)] w fun e w' => ∃ l' : List Pl, ∃ i : Nat, sweep m.room (marks m.l + 1) m.l m.hand = (l', i) ∧
      e = .returned (.int .i64 i) ∧ MemoAt w' base b mb pv { m with l := l', hand := (i + 1) % m.room } ∧ Fr w w' (MemoFp b mb pv) := by
  have H := Lib.hid h
  have HF := Lib.hid hfull
  clear h hfull
  go_enter Tryd.func14, Tryd.ntmps14
  go_wp2
  go_step3
  go_wp2
  go_step3
  go_wp2
  go_loopg [3] (marks m.l) (fun n v3 w' => Hid (∃ l1 h1, n = marks l1 ∧ MemoAt w' base b mb pv { m with l := l1, hand := h1 } ∧ l1.length = m.room ∧ sweep m.room (n + 1) l1 h1 = sweep m.room (marks m.l + 1) m.l m.hand ∧ Fr w w' (MemoFp b mb pv)))
  case atStart => exact ⟨m.l, m.hand, rfl, H.out, HF.out, rfl, Fr.refl _ _⟩
  case round =>
    obtain ⟨l1, h1, hn, hM, hl1, hs, hfr⟩ := hrel.out
    clear hrel H HF
    have c0 : wr.cell? ⟨b, 0, none⟩ = some pv := by rw [hM.blk.cell]; rfl
    have c1 : wr.cell? ⟨b, 1, none⟩ = some (.int .i64 m.room) := by rw [hM.blk.cell]; rfl
    have c2 : wr.cell? ⟨b, 2, none⟩ = some (.int .i64 h1) := by rw [hM.blk.cell]; rfl
    have f2 := hM.blk.frozen 2
    have hok : h1 < m.room := hM.ok.hand
    have hro : m.room ≤ 4096 := hM.ok.hi
    have hmod := hand_rem h1 m.room hok hro
    have hr0 : ¬ m.room = 0 := by omega
    have hlt : h1 < l1.length := by omega
    have HN := Lib.hid hn
    have HL := Lib.hid hl1
    have HS := Lib.hid hs
    obtain ⟨p, hp⟩ : ∃ p, l1[h1]? = some p := ⟨l1[h1]'(by omega), List.getElem?_eq_getElem (by omega)⟩
    obtain ⟨g, cap, rfl, _, _, _, d3, hfz⟩ := place_at hM hp
    have f3 := hfz (h1 * 4 + 3)
    clear hfz hn hl1 hs hro
    have HP := Lib.hid hp
    have HM := Lib.hid hM
    have HR := Lib.hid hfr
    have hrm : (h1 + 1) % m.room < m.room := Nat.mod_lt _ (by omega)
    have HRM := Lib.hid hrm
    obtain ⟨_, cur, hgb⟩ := row_blk hM.row (g := g) rfl
    have hbg : ¬ b = g := hM.blk.ne_ hgb (by decide)
    have hgb' : ¬ g = b := fun e => hbg e.symm
    clear hgb hp hM hfr hrm
    cases hmk : p.mark with
    | false =>
      rw [hmk] at d3
      have HK := Lib.hid hmk
      clear hmk
      go_wp2
      go_still_tail 13, (by kernel_rfl)
      go_wp2
      rw [Exit.noGoto_ret]
      go_ret
      refine ⟨l1, h1, ?_, rfl, HM.out.drew.hand_ HRM.out, HR.out.drew.setCell (.inl (.inl rfl)) _⟩
      rw [← HS.out, sweep_stop HP.out HK.out]
    | true =>
      rw [hmk] at d3
      have HK := Lib.hid hmk
      clear hmk
      go_wp2
      go_still_tail 13, (by kernel_rfl)
      go_wp2
      go_roundg (gk - 1)
      case measure => have := marks_set HP.out HK.out; have := HN.out; omega
      case rel =>
        refine ⟨l1.set h1 { p with mark := false }, (h1 + 1) % m.room, ?_, ?_, ?_, ?_, ?_⟩
        · have := marks_set HP.out HK.out; have := HN.out; omega
        · exact MemoAt.set_ (m := { m with l := l1, hand := (h1 + 1) % m.room }) (HM.out.drew.hand_ HRM.out) (i := h1) (j := 3) (p := p) (q := { p with mark := false }) HP.out (by omega) rfl rfl
        · have := HL.out; simpa using this
        · rw [← HS.out, sweep_go HP.out HK.out]
          have := marks_set HP.out HK.out
          have h2 := HN.out
          have h3 : gk - 1 + 1 = marks l1 := by omega
          rw [h3, ← h2]
        · exact (HR.out.drew.setCell (p := ⟨b, 2, none⟩) (.inl (.inl rfl)) _).setCell (p := ⟨g, h1 * 4 + 3, none⟩) (.inl (.inr (.inr rfl))) _

/-- A whole place is written: four cells. -/
theorem row_put {w : World} {base g cap n : Nat} {l : List Pl} (h : w.ownsRow base 49 4 (.slice (some ⟨g, 0, none⟩) n cap) n (l.flatMap Pl.cells)) {i : Nat} {p : Pl} (hi : l[i]? = some p) (q : Pl) :
    ((((w.setCell ⟨g, i * 4, none⟩ (.string q.k)).setCell ⟨g, i * 4 + 1, none⟩ (.int .i64 q.ver)).setCell ⟨g, i * 4 + 2, none⟩ (.string q.v)).setCell ⟨g, i * 4 + 3, none⟩ (.bool q.mark)).ownsRow base 49 4 (.slice (some ⟨g, 0, none⟩) n cap) n ((l.set i q).flatMap Pl.cells) := by
  have hl := (List.getElem?_eq_some_iff.1 hi).1
  have at_ : ∀ (x : Pl), (l.set i x)[i]? = some x := fun x => by simp [hl]
  have e0 := flat_set pl_len l i 0 p ⟨q.k, p.ver, p.v, p.mark⟩ (.string q.k) hi (by omega) rfl
  have e1 := flat_set pl_len (l.set i ⟨q.k, p.ver, p.v, p.mark⟩) i 1 _ ⟨q.k, q.ver, p.v, p.mark⟩ (.int .i64 q.ver) (at_ _) (by omega) rfl
  have e2 := flat_set pl_len (l.set i ⟨q.k, q.ver, p.v, p.mark⟩) i 2 _ ⟨q.k, q.ver, q.v, p.mark⟩ (.string q.v) (at_ _) (by omega) rfl
  have e3 := flat_set pl_len (l.set i ⟨q.k, q.ver, q.v, p.mark⟩) i 3 _ q (.bool q.mark) (at_ _) (by omega) rfl
  rw [List.set_set] at e1 e2 e3
  have h0 := row_set (c := i * 4 + 0) (u := .string q.k) h
  rw [e0] at h0
  have h1 := row_set (c := i * 4 + 1) (u := .int .i64 q.ver) h0
  rw [e1] at h1
  have h2 := row_set (c := i * 4 + 2) (u := .string q.v) h1
  rw [e2] at h2
  have h3 := row_set (c := i * 4 + 3) (u := .bool q.mark) h2
  rw [e3] at h3
  exact h3

/-- What is left behind the last two steps of Put. -/
theorem put_tail {w1 w2 : World} {base b mb g cap : Nat} {l : List Pl} {room hand : Nat} {q p : Pl} {i : Nat} {kvs : List (ByteArray × Value)} (hbb : base ≤ b) (hbm : base ≤ mb)
    (blk : Blk w1 b 45 #[.slice (some ⟨g, 0, none⟩) l.length cap, .int .i64 room, .int .i64 hand, .map (some mb)])
    (row : w1.ownsRow base 49 4 (.slice (some ⟨g, 0, none⟩) l.length cap) l.length (l.flatMap Pl.cells)) (hi : l[i]? = some p) (ok : Memo.Ok ⟨l.set i q, room, hand⟩)
    (hm : MapK Value.string w2 mb kvs) (idx : Idx kvs fun k => (findP k (l.set i q)).map fun i : Nat => Value.int .i64 (i : Int)) (hmb : b ≠ mb) (hgm : g ≠ mb)
    (hg : ((((w1.drew.setCell ⟨g, i * 4, none⟩ (.string q.k)).setCell ⟨g, i * 4 + 1, none⟩ (.int .i64 q.ver)).setCell ⟨g, i * 4 + 2, none⟩ (.string q.v)).setCell ⟨g, i * 4 + 3, none⟩ (.bool q.mark)).grownBy w2 (some mb)) :
    MemoAt w2 base b mb (.slice (some ⟨g, 0, none⟩) l.length cap) ⟨l.set i q, room, hand⟩ := by
  obtain ⟨_, cur, hgb⟩ := row_blk row (g := g) rfl
  have hbg : b ≠ g := blk.ne_ hgb (by decide)
  have hl : (l.set i q).length = l.length := by simp
  refine ⟨ok, hbb, hbm, ?_, ?_, kvs, hm, idx⟩
  · exact ((((blk.drew.far (p := ⟨g, i * 4, none⟩) hbg _).far (p := ⟨g, i * 4 + 1, none⟩) hbg _).far (p := ⟨g, i * 4 + 2, none⟩) hbg _).far (p := ⟨g, i * 4 + 3, none⟩) hbg _).grown hg (by simpa using hmb)
  · show w2.ownsRow base _ 4 _ (l.set i q).length _
    rw [hl]
    exact row_grown (row_put (w := w1.drew) row hi q) hg (fun g' e => by simp [Value.ownBlock] at e; subst e; simpa using hgm)

set_option maxHeartbeats 1000000 in
set_option maxRecDepth 100000 in
theorem put_found {w : World} {base b mb : Nat} {pv : Value} {m : Memo} (h : MemoAt w base b mb pv m) (hbase : base ≤ w.heap.size) (k v : ByteArray) (ver : Int) (i : Nat) (hf : findP k m.l = some i) :
    Calls Tryd.prog 9 #[.pointer (some ⟨b, 0, none⟩), .string k, .int .i64 ver, .string v] w fun e w' =>
      e = .returned (.tuple #[]) ∧ MemoAt w' base b mb pv (putM m k ver v) ∧ Fr w w' (MemoFp b mb pv) := by
  obtain ⟨kvs, hm1, hm2⟩ := h.map
  have e2 : lookK k kvs = (findP k m.l).map fun i : Nat => Value.int .i64 (i : Int) := hm2.2 k
  have hlk := run_lookK (P := Tryd.prog) (w := w.alloc (.cells #[.string k, .int .i64 ver, .string v, .bool true] 49)) (d := .string) (kf := Value.string) true Tryd.underlying42 Tryd.underlying9 (z := .int .i64 0) (by kernel_rfl) (hm1.alloc _) k
  rw [e2, hf] at hlk
  simp only [Option.map_some, Option.getD_some, Option.isSome_some, if_true] at hlk
  have c3 : w.cell? ⟨b, 3, none⟩ = some (.map (some mb)) := by rw [h.blk.cell]; rfl
  have hbl := h.blk.lt
  have H := Lib.hid h
  have HF := Lib.hid hf
  clear e2 h hf hm1 hm2
  go_enter Tryd.func9, Tryd.ntmps9
  go_wp2
  have H1 := H.out.keep ((Below.refl _ _).alloc (Nat.le_refl _) (.cells #[.string k, .int .i64 ver, .string v, .bool true] 49))
  have B1 := Blk.new w 49 #[.string k, .int .i64 ver, .string v, .bool true]
  have F1 := (Fr.refl w (MemoFp b mb pv)).alloc (.cells #[.string k, .int .i64 ver, .string v, .bool true] 49)
  clear c3 hlk hbl
  generalize w.alloc (.cells #[.string k, .int .i64 ver, .string v, .bool true] 49) = w1 at H1 B1 F1 ⊢
  obtain ⟨p, hp, hk⟩ := findP_some HF.out
  have hi := (List.getElem?_eq_some_iff.1 hp).1
  have c0 : w1.cell? ⟨b, 0, none⟩ = some pv := by rw [H1.blk.cell]; rfl
  have c3 : w1.cell? ⟨b, 3, none⟩ = some (.map (some mb)) := by rw [H1.blk.cell]; rfl
  have n0 : w1.cell? ⟨w.heap.size, 0, none⟩ = some (.string k) := by rw [B1.cell]; rfl
  have n1 : w1.cell? ⟨w.heap.size, 1, none⟩ = some (.int .i64 ver) := by rw [B1.cell]; rfl
  have n2 : w1.cell? ⟨w.heap.size, 2, none⟩ = some (.string v) := by rw [B1.cell]; rfl
  have n3 : w1.cell? ⟨w.heap.size, 3, none⟩ = some (.bool true) := by rw [B1.cell]; rfl
  obtain ⟨g, cap, rfl, d0, d1, d2, d3, hfz⟩ := place_at H1 hp
  have f0 := hfz (i * 4)
  have f1 := hfz (i * 4 + 1)
  have f2 := hfz (i * 4 + 2)
  have f3 := hfz (i * 4 + 3)
  obtain ⟨_, cur, hgb⟩ := row_blk H1.row (g := g) rfl
  have hbg : ¬ b = g := H1.blk.ne_ hgb (by decide)
  have hgb' : ¬ g = b := fun e => hbg e.symm
  have HH := Lib.hid H1
  have HB := Lib.hid B1
  have HFr := Lib.hid F1
  have HP := Lib.hid hp
  have HK := Lib.hid hk
  clear hgb hfz H1 B1 F1 hp hk
  obtain ⟨kvs1, hk1, hk2⟩ := HH.out.map
  have hmg : mb ≠ g := hk1.ne_blk (HH.out.row |> fun h => (row_blk h (g := g) rfl).2.choose_spec)
  have HM := Lib.hid hk1
  have HI := Lib.hid hk2
  have HMG := Lib.hid hmg
  clear hk1 hk2 hmg
  go_still_tail 7, (by kernel_rfl)
  go_wp2_with (at_mapUpdate; refine wpList_putK (κ := ByteArray) (kf := Value.string) (d := .string) rfl _ _ _ _ rfl Tryd.underlying42 Tryd.underlying9 mb kvs1 k (.int .i64 i) rfl rfl rfl ?_ ?_; exact ((((HM.out.drew.far HMG.out _).far HMG.out _).far HMG.out _).far HMG.out _); intro w2 hm2 hg2 hz2)
  go_end0
  have hfin : putM m k ver v = ⟨m.l.set i ⟨k, ver, v, true⟩, m.room, m.hand⟩ := by simp [putM, HF.out]
  rw [hfin]
  have hok := putM_ok HH.out.ok k ver v
  rw [hfin] at hok
  refine ⟨rfl, put_tail HH.out.bb HH.out.bm HH.out.blk HH.out.row HP.out hok hm2 ?_ (fun e => (HM.out.ne_blk HH.out.blk) e.symm) (fun e => HMG.out e.symm) hg2, ?_⟩
  · refine (HI.out.put k (.int .i64 i)).congr fun j => ?_
    rw [findP_set HP.out HK.out]
    by_cases e : j = k
    · rw [if_pos e, e, HF.out]; rfl
    · rw [if_neg e]
  · exact ((((HFr.out.drew.setCell (p := ⟨g, i * 4, none⟩) (.inl (.inr (.inr rfl))) _).setCell (p := ⟨g, i * 4 + 1, none⟩) (.inl (.inr (.inr rfl))) _).setCell (p := ⟨g, i * 4 + 2, none⟩) (.inl (.inr (.inr rfl))) _).setCell (p := ⟨g, i * 4 + 3, none⟩) (.inl (.inr (.inr rfl))) _).grown hg2 (fun k hk => .inl (.inr (.inl (by injection hk with hk; exact hk.symm))))
end Go.Proofs.YtjnghgalniapjaaDoor
