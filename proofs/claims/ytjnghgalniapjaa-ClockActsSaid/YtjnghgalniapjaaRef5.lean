/- The reference's Put where all is taken: the hand goes on, and a place is taken. -/
import Derived.Test.YtjnghgalniapjaaRef4
set_option linter.unusedSimpArgs false
set_option linter.unusedVariables false
namespace Go.Proofs.Ytjnghgalniapjaa
open Go.RowKit

theorem RoomSt.setc {w0 w : World} {ca cb cc : Array Value} (h : RoomSt w0 w ca cb cc) (i : Nat) (x : Value) : RoomSt w0 (w.setCell ⟨w0.heap.size, i, none⟩ x) (ca.setIfInBounds i x) cb cc :=
  ⟨h.b0.set_ i x, h.b1.far (by simp) x, h.b2.far (by simp; omega) x, h.be.setCell (Nat.le_refl _) x, by have := h.sz; simpa using this⟩
theorem RoomSt.keep {w0 w w' : World} {ca cb cc : Array Value} (h : RoomSt w0 w ca cb cc) (hb : Below w.heap.size w w') : RoomSt w0 w' ca cb cc :=
  ⟨h.b0.keep hb, h.b1.keep hb, h.b2.keep hb, below_step h.be h.be.size hb, Nat.le_trans h.sz hb.size⟩
theorem ref_setc {w : World} {base g : Nat} {u : Value} {ca : Array Value} {l : List Pl} (h : RefAt w base u l) (hg : Blk w g 32 ca) (i : Nat) (x : Value) : RefAt (w.setCell ⟨g, i, none⟩ x) base u l :=
  row_keep h fun g' hg' => Below.heap_setCell _ _ _ _ (by obtain ⟨_, cur, hc⟩ := row_blk h hg'; exact hc.ne_ hg (by decide))
theorem RoomSt.farc {w0 w : World} {ca cb cc : Array Value} (h : RoomSt w0 w ca cb cc) {g : Nat} (hg : w0.heap.size + 3 ≤ g) (i : Nat) (x : Value) : RoomSt w0 (w.setCell ⟨g, i, none⟩ x) ca cb cc :=
  ⟨h.b0.far (by simp; omega) x, h.b1.far (by simp; omega) x, h.b2.far (by simp; omega) x, h.be.setCell (by simp; omega) x, by have := h.sz; simpa using this⟩

set_option maxHeartbeats 1000000 in
theorem refPut_full {w : World} {base : Nat} {u : Value} {m : Memo} (h : RefAt w base u m.l) (hok : m.Ok) (hbase : base ≤ w.heap.size) (k v : ByteArray) (ver : Int) (hf : findP k m.l = none) (hfull : m.l.length = m.room) :
    Calls Try.prog 19 #[.agg #[u, .int .i64 m.room, .int .i64 m.hand], .string k, .int .i64 ver, .string v] w fun e w' =>
      (∃ u' l' i, sweep m.room (marks m.l + 1) m.l m.hand = (l', i) ∧ e = .returned (.agg #[u', .int .i64 m.room, .int .i64 ((i + 1) % m.room : Nat)]) ∧ RefAt w' base u' (l'.set i ⟨k, ver, v, true⟩)) ∧ Below w.heap.size w w' := by
  have hlen : m.l.length ≤ 4096 := Nat.le_trans hok.len hok.hi
  obtain ⟨A, cap, hu⟩ := row_slice h
  subst hu
  have hI : findI k m.l = -1 := by simp [findI, hf]
  have hltB : decide ((m.l.length : Int) < (m.room : Int)) = false := by simp; omega
  have hltB' : decide (m.l.length < m.room) = false := by simp; omega
  have H := Lib.hid h
  have HI := Lib.hid hI
  have HF := Lib.hid hfull
  have HLEN := Lib.hid hlen
  have HOK := Lib.hid hok
  clear h hok hf hI hfull
  go_enter Try.func19, Try.ntmps19
  go_wp2_with fail
  obtain ⟨b0, b1, b2, hbe, hsz⟩ := put_blocks w (.slice A m.l.length cap) (.int .i64 m.room) (.int .i64 m.hand) k v ver
  generalize ((w.alloc (.cells #[.slice A m.l.length cap, .int .i64 m.room, .int .i64 m.hand] 32)).alloc (.cells #[.slice none 0 0, .int .i64 0, .int .i64 0] 32)).alloc (.cells #[.string k, .int .i64 ver, .string v, .bool true] 60) = W at b0 b1 b2 hbe hsz ⊢
  refine (find_calls (H.out.keep hbe) hlen _ _ k).mono ?_
  rintro e w' ⟨rfl, rfl⟩
  rw [HI.out]
  have hst : RoomSt w (W.alloc (.cells #[.slice A m.l.length cap, .int .i64 m.room, .int .i64 m.hand] 32)) _ _ _ := (RoomSt.mk b0 b1 b2 hbe (by omega)).alloc _
  clear b0 b1 b2 hbe hsz hlen
  generalize W.alloc (.cells #[.slice A m.l.length cap, .int .i64 m.room, .int .i64 m.hand] 32) = W2 at hst ⊢
  have q0 := hst.b0.cell 0
  have q1 := hst.b0.cell 1
  have q2 := hst.b0.cell 2
  simp only [List.getElem?_toArray, List.getElem?_cons_zero, List.getElem?_cons_succ] at q0 q1 q2
  have HST := Lib.hid hst
  clear hst
  go_wp2
  clear q0 q1 q2 hltB hltB'
  go_loopg [11] (marks m.l) (fun n v11 w' => Hid (∃ u1 l1 h1, n = marks l1 ∧ RoomSt w w' #[u1, .int .i64 m.room, .int .i64 (h1 : Nat)] #[.slice none 0 0, .int .i64 0, .int .i64 0] #[.string k, .int .i64 ver, .string v, .bool true] ∧ RefAt w' base u1 l1 ∧ l1.length = m.room ∧ h1 < m.room ∧ sweep m.room (n + 1) l1 h1 = sweep m.room (marks m.l + 1) m.l m.hand))
  case atStart => exact ⟨_, m.l, m.hand, rfl, HST.out, H.out.keep HST.out.be, HF.out, HOK.out.hand, rfl⟩
  case round =>
    obtain ⟨u1, l1, h1, hn, hst, hr, hl1, hok, hs⟩ := hrel.out
    have hro : m.room ≤ 4096 := HOK.out.hi
    have hbw : base ≤ wr.heap.size := by have := hst.sz; omega
    clear hrel H HF HST HOK
    have hmod := hand_rem h1 m.room hok hro
    have hmod2 : (wrap64 ((h1 : Int) + 1)).tmod (m.room : Int) = (((h1 + 1) % m.room : Nat) : Int) := by
      unfold wrap64
      rw [← IntKind.wrap_i64]
      exact hmod
    have hr0 : ¬ m.room = 0 := by omega
    have hlt : h1 < l1.length := by omega
    have HL4 := Lib.hid (show l1.length ≤ 4096 by omega)
    have HBW := Lib.hid hbw
    have HN := Lib.hid hn
    have HL := Lib.hid hl1
    have HS := Lib.hid hs
    obtain ⟨p, hp⟩ : ∃ p, l1[h1]? = some p := ⟨l1[h1]'(by omega), List.getElem?_eq_getElem (by omega)⟩
    obtain ⟨g, cap1, rfl, _, d0, d1, d2, d3, hgl⟩ := hr.at_ hp
    have c0 := hst.b0.cell 0
    have c1 := hst.b0.cell 1
    have c2 := hst.b0.cell 2
    simp only [List.getElem?_toArray, List.getElem?_cons_zero, List.getElem?_cons_succ] at c0 c1 c2
    have HP := Lib.hid hp
    have HST := Lib.hid hst
    have HR := Lib.hid hr
    have HRM := Lib.hid (Nat.mod_lt (h1 + 1) (show 0 < m.room by omega))
    clear hn hl1 hs hro hp hst hr hbw
    cases hmk : p.mark with
    | false =>
      rw [hmk] at d3
      have p0 := HST.out.b2.cell 0
      have p1 := HST.out.b2.cell 1
      have p2 := HST.out.b2.cell 2
      have p3 := HST.out.b2.cell 3
      simp only [List.getElem?_toArray, List.getElem?_cons_zero, List.getElem?_cons_succ] at p0 p1 p2 p3
      have HK := Lib.hid hmk
      clear hmk
      go_wp2_with fail
      refine (with_calls HR.out HBW.out HL4.out _ _ h1 hlt ⟨k, ver, v, true⟩).mono ?_
      rintro e w5 ⟨⟨u5, rfl, hr5⟩, hb5⟩
      obtain ⟨A5, cap5, hu5⟩ := row_slice hr5
      subst hu5
      have hst5 := HST.out.keep hb5
      have s0 := hst5.b0.cell 0
      have s1 := hst5.b0.cell 1
      have s2 := hst5.b0.cell 2
      have r0 := hst5.b1.cell 0
      have r1 := hst5.b1.cell 1
      have r2 := hst5.b1.cell 2
      have fr0 := hst5.b1.frozen 0
      have fr1 := hst5.b1.frozen 1
      have fr2 := hst5.b1.frozen 2
      have hsz := hst5.sz
      simp only [List.getElem?_toArray, List.getElem?_cons_zero, List.getElem?_cons_succ] at s0 s1 s2 r0 r1 r2
      have HST5 := Lib.hid hst5
      have HR5 := Lib.hid hr5
      clear p0 p1 p2 p3 c0 c1 c2 d0 d1 d2 d3 hst5 hr5 hb5
      have hb0 : w.heap.size < w5.heap.size := by omega
      have hb1 : w.heap.size + 1 < w5.heap.size := by omega
      have hn0 : ¬ w5.heap.size = w.heap.size := by omega
      have hn1 : ¬ w5.heap.size = w.heap.size + 1 := by omega
      have hn2 : ¬ w.heap.size = w5.heap.size := by omega
      have hn3 : ¬ w.heap.size + 1 = w5.heap.size := by omega
      go_wp2
      have hr5 : RefAt w5 base (.slice A5 l1.length cap5) (l1.set h1 ⟨k, ver, v, true⟩) := by simpa [RefAt] using HR5.out
      refine bodyPost_ret (results_cell_row rfl _ _ (w.heap.size + 1) 32 _ (0, 0) _ rfl ((out_done HST5.out.b1).alloc _) Try.underlying32 rfl (by kernel_rfl)) rfl ?_
      refine ⟨⟨_, l1, h1, ?_, by first | rfl | rw [hmod2], (ref_far hr5 HST5.out.b1).keep ((Below.refl _ _).alloc (Nat.le_refl _) _)⟩, (below_set3 HST5.out.be (by omega) _ _ _).alloc (by simp; omega) _⟩
      rw [← HS.out, sweep_stop HP.out HK.out]
    | true =>
      rw [hmk] at d3
      have HK := Lib.hid hmk
      clear hmk
      have hb0 : w.heap.size < wr.heap.size := by have := HST.out.sz; omega
      have hn0 : ¬ wr.heap.size = w.heap.size := by omega
      have hn2 : ¬ w.heap.size = wr.heap.size := by omega
      go_wp2_with fail
      have hbA := (Below.refl wr.heap.size wr).alloc (Nat.le_refl _) (.cells #[.string p.k, .int .i64 p.ver, .string p.v, .bool true] 60)
      refine (with_calls (HR.out.keep hbA) (by simp; have := HBW.out; omega) HL4.out _ _ h1 hlt { p with mark := false }).mono ?_
      rintro e w5 ⟨⟨u5, rfl, hr5⟩, hb5⟩
      obtain ⟨A5, cap5, hu5⟩ := row_slice hr5
      subst hu5
      have hst5 := (HST.out.keep hbA).keep hb5
      have s0 := hst5.b0.cell 0
      have s1 := hst5.b0.cell 1
      have s2 := hst5.b0.cell 2
      have fr0 := hst5.b0.frozen 0
      have fr1 := hst5.b0.frozen 1
      have fr2 := hst5.b0.frozen 2
      simp only [List.getElem?_toArray, List.getElem?_cons_zero, List.getElem?_cons_succ] at s0 s1 s2
      have HST5 := Lib.hid hst5
      have HR5 := Lib.hid hr5
      clear c0 c1 c2 d0 d1 d2 d3 hst5 hr5 hb5 hbA
      go_wp2
      go_roundg (gk - 1)
      case measure => have := marks_set HP.out HK.out; have := HN.out; omega
      case rel =>
        rw [show ((h1 : Int) + 1) % (m.room : Int) = (((h1 + 1) % m.room : Nat) : Int) by push_cast; rfl]
        have hr5 : RefAt w5 base (.slice A5 l1.length cap5) (l1.set h1 { p with mark := false }) := by simpa [RefAt] using HR5.out
        have x0 := HST5.out.setc 0 (.slice A5 l1.length cap5)
        have y0 := ref_setc hr5 HST5.out.b0 0 (.slice A5 l1.length cap5)
        have x1 := x0.setc 1 (.int .i64 m.room)
        have y1 := ref_setc y0 x0.b0 1 (.int .i64 m.room)
        have x2 := x1.setc 2 (.int .i64 h1)
        have y2 := ref_setc y1 x1.b0 2 (.int .i64 h1)
        have x3 := x2.setc 2 (.int .i64 ((h1 + 1) % m.room : Nat))
        have y3 := ref_setc y2 x2.b0 2 (.int .i64 ((h1 + 1) % m.room : Nat))
        simp only [List.setIfInBounds_toArray, List.set_cons_zero, List.set_cons_succ] at x3
        refine ⟨_, l1.set h1 { p with mark := false }, (h1 + 1) % m.room, ?_, x3, y3, by simp [HL.out], HRM.out, ?_⟩
        · have := marks_set HP.out HK.out; have := HN.out; omega
        · rw [← HS.out, sweep_go HP.out HK.out]
          have := marks_set HP.out HK.out
          have h2 := HN.out
          have h3 : gk - 1 + 1 = marks l1 := by omega
          rw [h3, ← h2]

theorem refPut_calls {w : World} {base : Nat} {u : Value} {m : Memo} (h : RefAt w base u m.l) (hok : m.Ok) (hbase : base ≤ w.heap.size) (k v : ByteArray) (ver : Int) :
    Calls Try.prog 19 #[.agg #[u, .int .i64 m.room, .int .i64 m.hand], .string k, .int .i64 ver, .string v] w fun e w' =>
      (∃ u', e = .returned (.agg #[u', .int .i64 (putM m k ver v).room, .int .i64 (putM m k ver v).hand]) ∧ RefAt w' base u' (putM m k ver v).l) ∧ Below w.heap.size w w' := by
  cases hf : findP k m.l with
  | some i =>
    have fin : putM m k ver v = { m with l := m.l.set i ⟨k, ver, v, true⟩ } := by simp [putM, hf]
    rw [fin]
    exact refPut_found h hok hbase k v ver i hf
  | none =>
    by_cases hr : m.l.length < m.room
    · have fin : putM m k ver v = { m with l := m.l ++ [⟨k, ver, v, true⟩] } := by simp [putM, hf, hr]
      rw [fin]
      exact refPut_room h hok hbase k v ver hf hr
    · refine (refPut_full h hok hbase k v ver hf (by have := hok.len; omega)).mono ?_
      rintro e w' ⟨⟨u', l', i, hs, he, hr'⟩, hb⟩
      have fin : putM m k ver v = { m with l := l'.set i ⟨k, ver, v, true⟩, hand := (i + 1) % m.room } := by simp [putM, hf, hr, hs]
      rw [fin]
      exact ⟨⟨u', he, hr'⟩, hb⟩
end Go.Proofs.Ytjnghgalniapjaa
