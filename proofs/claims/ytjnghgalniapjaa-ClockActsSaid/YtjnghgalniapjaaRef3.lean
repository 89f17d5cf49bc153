/- The reference's Put. -/
import Derived.Test.YtjnghgalniapjaaRef2
set_option linter.unusedSimpArgs false
set_option linter.unusedVariables false
namespace Go.Proofs.Ytjnghgalniapjaa
open Go.RowKit

/-- The result's box, written whole. -/
theorem out_done {w : World} {g : Nat} {a b c x y z : Value} (h : Blk w g 32 #[a, b, c]) :
    Blk (((w.setCell ⟨g, 0, none⟩ x).setCell ⟨g, 1, none⟩ y).setCell ⟨g, 2, none⟩ z) g 32 #[x, y, z] := by
  have := ((h.set_ 0 x).set_ 1 y).set_ 2 z
  simpa using this
theorem ref_far {w : World} {base g : Nat} {u a b c x y z : Value} {l : List Pl} (h : RefAt w base u l) (hg : Blk w g 32 #[a, b, c]) :
    RefAt (((w.setCell ⟨g, 0, none⟩ x).setCell ⟨g, 1, none⟩ y).setCell ⟨g, 2, none⟩ z) base u l := by
  refine row_keep h fun g' hg' => ?_
  have hne : g' ≠ g := by
    obtain ⟨_, cur, hc⟩ := row_blk h hg'
    exact hc.ne_ hg (by decide)
  rw [Below.heap_setCell _ _ _ _ hne, Below.heap_setCell _ _ _ _ hne, Below.heap_setCell _ _ _ _ hne]
theorem below_set3 {B : Nat} {w W : World} {g : Nat} (h : Below B w W) (hg : B ≤ g) (x y z : Value) : Below B w (((W.setCell ⟨g, 0, none⟩ x).setCell ⟨g, 1, none⟩ y).setCell ⟨g, 2, none⟩ z) :=
  ((h.setCell (p := ⟨g, 0, none⟩) hg x).setCell (p := ⟨g, 1, none⟩) hg y).setCell (p := ⟨g, 2, none⟩) hg z

/-- What lies in memory behind Put's first steps. -/
theorem put_blocks (w : World) (ma mb mc : Value) (k v : ByteArray) (ver : Int) :
    Blk (((w.alloc (.cells #[ma, mb, mc] 32)).alloc (.cells #[.slice none 0 0, .int .i64 0, .int .i64 0] 32)).alloc (.cells #[.string k, .int .i64 ver, .string v, .bool true] 60)) w.heap.size 32 #[ma, mb, mc] ∧
    Blk (((w.alloc (.cells #[ma, mb, mc] 32)).alloc (.cells #[.slice none 0 0, .int .i64 0, .int .i64 0] 32)).alloc (.cells #[.string k, .int .i64 ver, .string v, .bool true] 60)) (w.heap.size + 1) 32 #[.slice none 0 0, .int .i64 0, .int .i64 0] ∧
    Blk (((w.alloc (.cells #[ma, mb, mc] 32)).alloc (.cells #[.slice none 0 0, .int .i64 0, .int .i64 0] 32)).alloc (.cells #[.string k, .int .i64 ver, .string v, .bool true] 60)) (w.heap.size + 1 + 1) 60 #[.string k, .int .i64 ver, .string v, .bool true] ∧
    Below w.heap.size w (((w.alloc (.cells #[ma, mb, mc] 32)).alloc (.cells #[.slice none 0 0, .int .i64 0, .int .i64 0] 32)).alloc (.cells #[.string k, .int .i64 ver, .string v, .bool true] 60)) ∧
    (((w.alloc (.cells #[ma, mb, mc] 32)).alloc (.cells #[.slice none 0 0, .int .i64 0, .int .i64 0] 32)).alloc (.cells #[.string k, .int .i64 ver, .string v, .bool true] 60)).heap.size = w.heap.size + 3 := by
  refine ⟨((Blk.new w _ _).alloc _).alloc _, ?_, ?_, (((Below.refl _ w).alloc (Nat.le_refl _) _).alloc (by simp) _).alloc (by simp; omega) _, by simp⟩
  · unfold Blk
    rw [heap_alloc_if, if_neg (by simp), heap_alloc_if, if_pos (by simp)]
  · unfold Blk
    rw [heap_alloc_if, if_pos (by simp)]

set_option maxHeartbeats 1000000 in
theorem refPut_found {w : World} {base : Nat} {u : Value} {m : Memo} (h : RefAt w base u m.l) (hok : m.Ok) (hbase : base ≤ w.heap.size) (k v : ByteArray) (ver : Int) (i : Nat) (hf : findP k m.l = some i) :
    Calls Try.prog 19 #[.agg #[u, .int .i64 m.room, .int .i64 m.hand], .string k, .int .i64 ver, .string v] w fun e w' =>
      (∃ u', e = .returned (.agg #[u', .int .i64 m.room, .int .i64 m.hand]) ∧ RefAt w' base u' (m.l.set i ⟨k, ver, v, true⟩)) ∧ Below w.heap.size w w' := by
  have hlen : m.l.length ≤ 4096 := Nat.le_trans hok.len hok.hi
  obtain ⟨A, cap, hu⟩ := row_slice h
  subst hu
  have hi := findP_lt hf
  have hI : findI k m.l = i := by simp [findI, hf]
  have H := Lib.hid h
  have HI := Lib.hid hI
  clear h hok hf hI
  go_enter Try.func19, Try.ntmps19
  go_wp2_with fail
  obtain ⟨b0, b1, b2, hbe, hsz⟩ := put_blocks w (.slice A m.l.length cap) (.int .i64 m.room) (.int .i64 m.hand) k v ver
  generalize ((w.alloc (.cells #[.slice A m.l.length cap, .int .i64 m.room, .int .i64 m.hand] 32)).alloc (.cells #[.slice none 0 0, .int .i64 0, .int .i64 0] 32)).alloc (.cells #[.string k, .int .i64 ver, .string v, .bool true] 60) = W at b0 b1 b2 hbe hsz ⊢
  refine (find_calls (H.out.keep hbe) hlen _ _ k).mono ?_
  rintro e w' ⟨rfl, rfl⟩
  rw [HI.out]
  have c0 := b0.alloc (.cells #[.slice A m.l.length cap, .int .i64 m.room, .int .i64 m.hand] 32)
  have c1 := b1.alloc (.cells #[.slice A m.l.length cap, .int .i64 m.room, .int .i64 m.hand] 32)
  have c2 := b2.alloc (.cells #[.slice A m.l.length cap, .int .i64 m.room, .int .i64 m.hand] 32)
  have hbe2 := hbe.alloc hbe.size (.cells #[.slice A m.l.length cap, .int .i64 m.room, .int .i64 m.hand] 32)
  clear b0 b1 b2 hbe hsz
  generalize W.alloc (.cells #[.slice A m.l.length cap, .int .i64 m.room, .int .i64 m.hand] 32) = W2 at c0 c1 c2 hbe2 ⊢
  have q0 := c0.cell 0
  have q1 := c0.cell 1
  have q2 := c0.cell 2
  have p0 := c2.cell 0
  have p1 := c2.cell 1
  have p2 := c2.cell 2
  have p3 := c2.cell 3
  simp only [List.getElem?_toArray, List.getElem?_cons_zero, List.getElem?_cons_succ] at p0 p1 p2 p3 q0 q1 q2
  have HC1 := Lib.hid c1
  have HBE := Lib.hid hbe2
  clear c0 c1 c2 hbe2
  go_wp2_with fail
  refine (with_calls (H.out.keep HBE.out) (Nat.le_trans hbase HBE.out.size) hlen _ _ i hi ⟨k, ver, v, true⟩).mono ?_
  rintro e w5 ⟨⟨u5, rfl, hr5⟩, hb5⟩
  obtain ⟨A5, cap5, hu5⟩ := row_slice hr5
  subst hu5
  have b5 := HC1.out.keep hb5
  have r0 := b5.cell 0
  have r1 := b5.cell 1
  have r2 := b5.cell 2
  have fr0 := b5.frozen 0
  have fr1 := b5.frozen 1
  have fr2 := b5.frozen 2
  simp only [List.getElem?_toArray, List.getElem?_cons_zero, List.getElem?_cons_succ] at r0 r1 r2
  have B5 := Lib.hid b5
  have hr6 : RefAt w5 base (.slice A5 m.l.length cap5) (m.l.set i ⟨k, ver, v, true⟩) := by simpa [RefAt] using hr5
  have R5 := Lib.hid hr6
  have HB5 := Lib.hid hb5
  clear p0 p1 p2 p3 q0 q1 q2 b5 hr5 hr6 hb5
  go_wp2
  refine bodyPost_ret (results_cell_row rfl _ _ (w.heap.size + 1) 32 _ (0, 0) _ rfl (out_done B5.out) Try.underlying32 rfl (by kernel_rfl)) rfl ?_
  exact ⟨⟨_, rfl, ref_far R5.out B5.out⟩, below_set3 (below_step HBE.out HBE.out.size HB5.out) (by omega) _ _ _⟩
end Go.Proofs.Ytjnghgalniapjaa
