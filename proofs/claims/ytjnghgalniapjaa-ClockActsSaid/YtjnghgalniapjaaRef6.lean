/- One act done by the reference. -/
import Derived.Test.YtjnghgalniapjaaRef5
set_option linter.unusedSimpArgs false
set_option linter.unusedVariables false
namespace Go.Proofs.Ytjnghgalniapjaa
open Go.RowKit

/-- What lies in memory behind act's first steps. -/
theorem act_blocks (w : World) (ca ct : Array Value) :
    Blk (((w.alloc (.cells ca 32)).alloc (.cells ct 38)).alloc (.cells #[.slice none 0 0, .int .i64 0, .int .i64 0] 32)) w.heap.size 32 ca ∧
    Blk (((w.alloc (.cells ca 32)).alloc (.cells ct 38)).alloc (.cells #[.slice none 0 0, .int .i64 0, .int .i64 0] 32)) (w.heap.size + 1) 38 ct ∧
    Blk (((w.alloc (.cells ca 32)).alloc (.cells ct 38)).alloc (.cells #[.slice none 0 0, .int .i64 0, .int .i64 0] 32)) (w.heap.size + 1 + 1) 32 #[.slice none 0 0, .int .i64 0, .int .i64 0] ∧
    Below w.heap.size w (((w.alloc (.cells ca 32)).alloc (.cells ct 38)).alloc (.cells #[.slice none 0 0, .int .i64 0, .int .i64 0] 32)) := by
  refine ⟨((Blk.new w _ _).alloc _).alloc _, ?_, ?_, (((Below.refl _ w).alloc (Nat.le_refl _) _).alloc (by simp) _).alloc (by simp; omega) _⟩
  · unfold Blk
    rw [heap_alloc_if, if_neg (by simp), heap_alloc_if, if_pos (by simp)]
  · unfold Blk
    rw [heap_alloc_if, if_pos (by simp)]

set_option maxHeartbeats 1000000 in
theorem act_calls {w : World} {base : Nat} {u : Value} {m : Memo} (h : RefAt w base u m.l) (hok : m.Ok) (hbase : base ≤ w.heap.size) (a : Act) :
    Calls Try.prog 12 #[.agg #[u, .int .i64 m.room, .int .i64 m.hand], .agg #[.bool a.put, .string a.k, .int .i64 a.ver, .string a.v]] w fun e w' =>
      (∃ u', e = .returned (.tuple #[.agg #[u', .int .i64 (doM m a).1.room, .int .i64 (doM m a).1.hand], .string (doM m a).2.1, .bool (doM m a).2.2]) ∧ RefAt w' base u' (doM m a).1.l) ∧ Below w.heap.size w w' := by
  obtain ⟨put, k, ver, v⟩ := a
  have H := Lib.hid h
  have HOK := Lib.hid hok
  clear h hok
  cases put with
  | true =>
    have fin : doM m ⟨true, k, ver, v⟩ = (putM m k ver v, ⟨#[]⟩, false) := by simp [doM]
    rw [fin]
    go_enter Try.func12, Try.ntmps12
    go_wp2_with fail
    obtain ⟨b0, b1, b2, hbe⟩ := act_blocks w #[u, .int .i64 m.room, .int .i64 m.hand] #[.bool true, .string k, .int .i64 ver, .string v]
    generalize ((w.alloc (.cells #[u, .int .i64 m.room, .int .i64 m.hand] 32)).alloc (.cells #[.bool true, .string k, .int .i64 ver, .string v] 38)).alloc (.cells #[.slice none 0 0, .int .i64 0, .int .i64 0] 32) = W at b0 b1 b2 hbe ⊢
    refine (refPut_calls (H.out.keep hbe) HOK.out (Nat.le_trans hbase hbe.size) k v ver).mono ?_
    rintro e w5 ⟨⟨u5, rfl, hr5⟩, hb5⟩
    obtain ⟨A5, cap5, hu5⟩ := row_slice hr5
    subst hu5
    have b5 := b2.keep hb5
    have hbe5 := below_step hbe hbe.size hb5
    have r0 := b5.cell 0
    have r1 := b5.cell 1
    have r2 := b5.cell 2
    have fr0 := b5.frozen 0
    have fr1 := b5.frozen 1
    have fr2 := b5.frozen 2
    simp only [List.getElem?_toArray, List.getElem?_cons_zero, List.getElem?_cons_succ] at r0 r1 r2
    have B5 := Lib.hid b5
    have R5 := Lib.hid hr5
    have HB5 := Lib.hid hbe5
    clear b0 b1 b2 b5 hbe hr5 hb5 hbe5
    go_wp2
    refine bodyPost_ret (results_cell_row3 rfl _ _ (w.heap.size + 1 + 1) 32 _ (0, 0) _ rfl (out_done B5.out) Try.underlying32 rfl (by kernel_rfl)) rfl ?_
    exact ⟨⟨_, rfl, ref_far R5.out B5.out⟩, below_set3 HB5.out (by omega) _ _ _⟩
  | false =>
    have fin : doM m ⟨false, k, ver, v⟩ = getM m k ver := by simp [doM]
    rw [fin]
    go_enter Try.func12, Try.ntmps12
    go_wp2_with fail
    obtain ⟨b0, b1, b2, hbe⟩ := act_blocks w #[u, .int .i64 m.room, .int .i64 m.hand] #[.bool false, .string k, .int .i64 ver, .string v]
    generalize ((w.alloc (.cells #[u, .int .i64 m.room, .int .i64 m.hand] 32)).alloc (.cells #[.bool false, .string k, .int .i64 ver, .string v] 38)).alloc (.cells #[.slice none 0 0, .int .i64 0, .int .i64 0] 32) = W at b0 b1 b2 hbe ⊢
    refine (refGet_calls (H.out.keep hbe) HOK.out (Nat.le_trans hbase hbe.size) k ver).mono ?_
    rintro e w5 ⟨⟨u5, rfl, hr5⟩, hb5⟩
    obtain ⟨A5, cap5, hu5⟩ := row_slice hr5
    subst hu5
    have b5 := b2.keep hb5
    have hbe5 := below_step hbe hbe.size hb5
    have r0 := b5.cell 0
    have r1 := b5.cell 1
    have r2 := b5.cell 2
    have fr0 := b5.frozen 0
    have fr1 := b5.frozen 1
    have fr2 := b5.frozen 2
    simp only [List.getElem?_toArray, List.getElem?_cons_zero, List.getElem?_cons_succ] at r0 r1 r2
    have B5 := Lib.hid b5
    have R5 := Lib.hid hr5
    have HB5 := Lib.hid hbe5
    clear b0 b1 b2 b5 hbe hr5 hb5 hbe5
    go_wp2
    refine bodyPost_ret (results_cell_row3 rfl _ _ (w.heap.size + 1 + 1) 32 _ (0, 0) _ rfl (out_done B5.out) Try.underlying32 rfl (by kernel_rfl)) rfl ?_
    exact ⟨⟨_, rfl, ref_far R5.out B5.out⟩, below_set3 HB5.out (by omega) _ _ _⟩

/-- The memo's doing leaves the reference's memory alone. -/
theorem fp_type {w : World} {base b mb : Nat} {pv : Value} {m : Memo} (hM : MemoAt w base b mb pv m) {g : Nat} {t : TypeId} {cs : Array Value} (hg : Blk w g t cs) (h1 : t ≠ 53) (h2 : t ≠ 57) : ¬ MemoFp b mb pv g := by
  rintro (e | e | e)
  · subst e; exact (hg.ne_ hM.blk h1) rfl
  · subst e
    obtain ⟨kvs, hk, _⟩ := hM.map
    exact (hk.ne_blk hg) rfl
  · obtain ⟨_, cur, hc⟩ := row_blk hM.row e
    exact (hg.ne_ hc h2) rfl
theorem RefAt.fr {w w' : World} {base base' b mb : Nat} {pv u : Value} {m : Memo} {l : List Pl} (h : RefAt w base u l) (hM : MemoAt w base' b mb pv m) (hf : Fr w w' (MemoFp b mb pv)) : RefAt w' base u l :=
  row_fr h hf fun g hg => by obtain ⟨_, cur, hc⟩ := row_blk h hg; exact fp_type hM hc (by decide) (by decide)
theorem box_fr {w w' : World} {base' b mb g : Nat} {pv : Value} {m : Memo} {cs : Array Value} (h : Blk w g 32 cs) (hM : MemoAt w base' b mb pv m) (hf : Fr w w' (MemoFp b mb pv)) : Blk w' g 32 cs :=
  h.fr hf (fp_type hM h (by decide) (by decide))
end Go.Proofs.Ytjnghgalniapjaa
