/- The reference's Get, Put and New, and an act of it. -/
import Derived.Test.YtjnghgalniapjaaRef
set_option linter.unusedSimpArgs false
set_option linter.unusedVariables false
namespace Go.Proofs.Ytjnghgalniapjaa
open Go.RowKit

theorem results_cell_row3 {P : Program} {fn : Func} {p u v : Tmp} {ty : TypeId} (h : fn.results = #[.cell p ty, .tmp u, .tmp v]) (tmps : Array Value) (w : World) (g : Nat) (t : TypeId) (cs : Array Value) (fr : Nat × Nat) (d : TypeDesc)
    (hp : tmps.getD p undef = .pointer (some ⟨g, 0, none⟩)) (hg : w.heap[g]? = some (.cells cs t fr))
    (hu : P.underlying ty = some d) (hd : (match d with | .struct _ | .array _ _ => true | _ => false) = true) (hi : (P.info? ty).map (·.size) = some cs.size) :
    (results fn tmps).run P w = .ok (.tuple #[.agg cs, tmps.getD u undef, tmps.getD v undef]) w := by
  have hp' : tmps[p]?.getD undef = .pointer (some ⟨g, 0, none⟩) := by simpa using hp
  simp [results, h, hp', asAddr, run_loadVar_row w g t ty cs fr d hg hu hd hi]
theorem results_cell_row2 {P : Program} {fn : Func} {p u : Tmp} {ty : TypeId} (h : fn.results = #[.cell p ty, .tmp u]) (tmps : Array Value) (w : World) (g : Nat) (t : TypeId) (cs : Array Value) (fr : Nat × Nat) (d : TypeDesc)
    (hp : tmps.getD p undef = .pointer (some ⟨g, 0, none⟩)) (hg : w.heap[g]? = some (.cells cs t fr))
    (hu : P.underlying ty = some d) (hd : (match d with | .struct _ | .array _ _ => true | _ => false) = true) (hi : (P.info? ty).map (·.size) = some cs.size) :
    (results fn tmps).run P w = .ok (.tuple #[.agg cs, tmps.getD u undef]) w := by
  have hp' : tmps[p]?.getD undef = .pointer (some ⟨g, 0, none⟩) := by simpa using hp
  simp [results, h, hp', asAddr, run_loadVar_row w g t ty cs fr d hg hu hd hi]

theorem heap_alloc_if (w : World) (o : Obj) (i : Nat) : (w.alloc o).heap[i]? = if i = w.heap.size then some o else w.heap[i]? := by
  simp only [World.alloc, Array.getElem?_push]

theorem RefAt.keep {w w' : World} {base : Nat} {u : Value} {l : List Pl} (h : RefAt w base u l) (hb : Below w.heap.size w w') : RefAt w' base u l := row_below h hb

set_option maxHeartbeats 1000000 in
theorem refNew_ok (r : Int) (w : World) (h1 : 1 ≤ r) (h2 : r ≤ 4096) :
    Calls Try.prog 10 #[.int .i64 r] w fun e w' => e = .returned (.tuple #[.agg #[.slice none 0 0, .int .i64 r, .int .i64 0], .int .i64 0]) ∧ Below w.heap.size w w' := by
  go_enter Try.func10, Try.ntmps10
  go_wp2
  refine bodyPost_ret (results_cell_row2 rfl _ _ w.heap.size 32 #[.slice none 0 0, .int .i64 r, .int .i64 0] (0, 0) _ rfl (heap_alloc_new w _) Try.underlying32 rfl (by kernel_rfl)) rfl ?_
  exact ⟨rfl, (Below.refl _ _).alloc (Nat.le_refl _) _⟩

set_option maxHeartbeats 1000000 in
theorem refGet_calls {w : World} {base : Nat} {u : Value} {m : Memo} (h : RefAt w base u m.l) (hok : m.Ok) (hbase : base ≤ w.heap.size) (k : ByteArray) (ver : Int) :
    Calls Try.prog 15 #[.agg #[u, .int .i64 m.room, .int .i64 m.hand], .string k, .int .i64 ver] w fun e w' =>
      (∃ u', e = .returned (.tuple #[.agg #[u', .int .i64 (getM m k ver).1.room, .int .i64 (getM m k ver).1.hand], .string (getM m k ver).2.1, .bool (getM m k ver).2.2]) ∧ RefAt w' base u' (getM m k ver).1.l) ∧ Below w.heap.size w w' := by
  have hlen : m.l.length ≤ 4096 := Nat.le_trans hok.len hok.hi
  obtain ⟨A, cap, hu⟩ := row_slice h
  subst hu
  have H := Lib.hid h
  have HOK := Lib.hid hok
  clear h hok
  cases hf : findP k m.l with
  | none =>
    have hI : findI k m.l = -1 := by simp [findI, hf]
    have fin : getM m k ver = (m, ⟨#[]⟩, false) := by simp [getM, hf]
    rw [fin]
    have HI := Lib.hid hI
    clear hf hI fin
    go_enter Try.func15, Try.ntmps15
    go_wp2_with fail
    refine (find_calls (H.out.keep ?_) hlen _ _ k).mono ?_
    · exact ((Below.refl _ w).alloc (Nat.le_refl _) _).alloc (by simp) _
    rintro e w' ⟨rfl, rfl⟩
    rw [HI.out]
    go_wp2
    refine bodyPost_ret (results_cell_row3 rfl _ _ (w.heap.size + 1) 32 #[.slice A m.l.length cap, .int .i64 m.room, .int .i64 m.hand] (0, 0) _ rfl ?_ Try.underlying32 rfl (by kernel_rfl)) rfl ?_
    · rw [heap_alloc_if, if_neg (by simp), heap_alloc_if, if_pos (by simp)]
    · exact ⟨⟨_, rfl, H.out.keep ((((Below.refl _ w).alloc (Nat.le_refl _) _).alloc (by simp) _).alloc (by simp; omega) _)⟩, (((Below.refl _ w).alloc (Nat.le_refl _) _).alloc (by simp) _).alloc (by simp; omega) _⟩
  | some i =>
    obtain ⟨p, hp, hk⟩ := findP_some hf
    have hi := (List.getElem?_eq_some_iff.1 hp).1
    have hI : findI k m.l = i := by simp [findI, hf]
    have HI := Lib.hid hI
    have HP := Lib.hid hp
    by_cases hv : p.ver = ver
    · have fin : getM m k ver = ({ m with l := m.l.set i { p with mark := true } }, p.v, true) := by simp [getM, hf, hp, hv]
      rw [fin]
      obtain ⟨g, cap', hcap, _, d0, d1, d2, d3, hgl⟩ := H.out.at_ hp
      cases hcap
      have hgl1 : g < w.heap.size + 1 := by omega
      have hgl2 : g < w.heap.size + 1 + 1 := by omega
      have hgl3 : g < w.heap.size + 1 + 1 + 1 := by omega
      rw [hv] at d1
      have HV := Lib.hid hv
      clear hf hI fin hp hk hv
      go_enter Try.func15, Try.ntmps15
      go_wp2_with fail
      refine (find_calls (H.out.keep ?_) hlen _ _ k).mono ?_
      · exact ((Below.refl _ w).alloc (Nat.le_refl _) _).alloc (by simp) _
      rintro e w' ⟨rfl, rfl⟩
      rw [HI.out]
      go_wp2
      have b0 : Blk ((((w.alloc (.cells #[.slice (some ⟨g, 0, none⟩) m.l.length cap, .int .i64 m.room, .int .i64 m.hand] 32)).alloc (.cells #[.slice none 0 0, .int .i64 0, .int .i64 0] 32)).alloc (.cells #[.slice (some ⟨g, 0, none⟩) m.l.length cap, .int .i64 m.room, .int .i64 m.hand] 32)).alloc (.cells #[.string p.k, .int .i64 ver, .string p.v, .bool p.mark] 60)) w.heap.size 32 #[.slice (some ⟨g, 0, none⟩) m.l.length cap, .int .i64 m.room, .int .i64 m.hand] := (((Blk.new w _ _).alloc _).alloc _).alloc _
      have b1 : Blk ((((w.alloc (.cells #[.slice (some ⟨g, 0, none⟩) m.l.length cap, .int .i64 m.room, .int .i64 m.hand] 32)).alloc (.cells #[.slice none 0 0, .int .i64 0, .int .i64 0] 32)).alloc (.cells #[.slice (some ⟨g, 0, none⟩) m.l.length cap, .int .i64 m.room, .int .i64 m.hand] 32)).alloc (.cells #[.string p.k, .int .i64 ver, .string p.v, .bool p.mark] 60)) (w.heap.size + 1) 32 #[.slice none 0 0, .int .i64 0, .int .i64 0] := by
        unfold Blk
        rw [heap_alloc_if, if_neg (by simp), heap_alloc_if, if_neg (by simp), heap_alloc_if, if_pos (by simp)]
      have b3 : Blk ((((w.alloc (.cells #[.slice (some ⟨g, 0, none⟩) m.l.length cap, .int .i64 m.room, .int .i64 m.hand] 32)).alloc (.cells #[.slice none 0 0, .int .i64 0, .int .i64 0] 32)).alloc (.cells #[.slice (some ⟨g, 0, none⟩) m.l.length cap, .int .i64 m.room, .int .i64 m.hand] 32)).alloc (.cells #[.string p.k, .int .i64 ver, .string p.v, .bool p.mark] 60)) (w.heap.size + 1 + 1 + 1) 60 #[.string p.k, .int .i64 ver, .string p.v, .bool p.mark] := by
        unfold Blk
        rw [heap_alloc_if, if_pos (by simp)]
      have hb4 : Below w.heap.size w ((((w.alloc (.cells #[.slice (some ⟨g, 0, none⟩) m.l.length cap, .int .i64 m.room, .int .i64 m.hand] 32)).alloc (.cells #[.slice none 0 0, .int .i64 0, .int .i64 0] 32)).alloc (.cells #[.slice (some ⟨g, 0, none⟩) m.l.length cap, .int .i64 m.room, .int .i64 m.hand] 32)).alloc (.cells #[.string p.k, .int .i64 ver, .string p.v, .bool p.mark] 60)) := ((((Below.refl _ w).alloc (Nat.le_refl _) _).alloc (by simp) _).alloc (by simp; omega) _).alloc (by simp; omega) _
      generalize hW : (((w.alloc (.cells #[.slice (some ⟨g, 0, none⟩) m.l.length cap, .int .i64 m.room, .int .i64 m.hand] 32)).alloc (.cells #[.slice none 0 0, .int .i64 0, .int .i64 0] 32)).alloc (.cells #[.slice (some ⟨g, 0, none⟩) m.l.length cap, .int .i64 m.room, .int .i64 m.hand] 32)).alloc (.cells #[.string p.k, .int .i64 ver, .string p.v, .bool p.mark] 60) = W at b0 b1 b3 hb4 ⊢
      clear hW d0 d1 d2 d3 hgl hgl1 hgl2 hgl3
      have q0 := b0.cell 0
      have q1 := b0.cell 1
      have q2 := b0.cell 2
      have p0 := b3.cell 0
      have p1 := b3.cell 1
      have p2 := b3.cell 2
      have r0 := b1.cell 0
      have r1 := b1.cell 1
      have r2 := b1.cell 2
      have fr0 := b1.frozen 0
      have fr1 := b1.frozen 1
      have fr2 := b1.frozen 2
      simp only [List.getElem?_toArray, List.getElem?_cons_zero, List.getElem?_cons_succ] at p0 p1 p2 q0 q1 q2 r0 r1 r2
      have HB0 := Lib.hid b0
      have HB1 := Lib.hid b1
      have HB3 := Lib.hid b3
      have HB4 := Lib.hid hb4
      clear b0 b1 b3 hb4
      go_region_held3 (fun w' => w'.cell? ⟨w.heap.size + 1 + 1 + 1, 0, none⟩ = some (.string p.k) ∧ w'.cell? ⟨w.heap.size + 1 + 1 + 1, 1, none⟩ = some (.int .i64 ver) ∧ w'.cell? ⟨w.heap.size + 1 + 1 + 1, 2, none⟩ = some (.string p.v) ∧ w'.cell? ⟨w.heap.size, 0, none⟩ = some (.slice (some ⟨g, 0, none⟩) m.l.length cap) ∧ w'.cell? ⟨w.heap.size, 1, none⟩ = some (.int .i64 m.room) ∧ w'.cell? ⟨w.heap.size, 2, none⟩ = some (.int .i64 m.hand)) (first | exact ⟨p0, p1, p2, q0, q1, q2⟩ | exact ⟨t0, t1, t2, s0, s1, s2⟩ | go_keep) (first | (go_at_call 21; refine (with_calls (H.out.keep HB4.out.drew) (Nat.le_trans hbase HB4.out.size) hlen _ _ i hi { p with ver := ver, mark := true }).mono ?_; rintro e w5 ⟨⟨u5, rfl, hr5⟩, hb5⟩; obtain ⟨A5, cap5, hu5⟩ := row_slice hr5; subst hu5; have s0 := (HB0.out.drew.keep hb5).cell 0; have s1 := (HB0.out.drew.keep hb5).cell 1; have s2 := (HB0.out.drew.keep hb5).cell 2; have t0 := (HB3.out.drew.keep hb5).cell 0; have t1 := (HB3.out.drew.keep hb5).cell 1; have t2 := (HB3.out.drew.keep hb5).cell 2; have v0 := (HB1.out.drew.keep hb5).cell 0; have v1 := (HB1.out.drew.keep hb5).cell 1; have v2 := (HB1.out.drew.keep hb5).cell 2; have g0 := (HB1.out.drew.keep hb5).frozen 0; have g1 := (HB1.out.drew.keep hb5).frozen 1; have g2 := (HB1.out.drew.keep hb5).frozen 2; simp only [List.getElem?_toArray, List.getElem?_cons_zero, List.getElem?_cons_succ] at s0 s1 s2 t0 t1 t2 v0 v1 v2))
      go_wp2
      have hl5 : ({ m with l := m.l.set i { p with ver := ver, mark := true } } : Memo).l = m.l.set i { p with mark := true } := by rw [← HV.out]
      have b5 := ((((HB1.out.drew.keep hb5).set_ 0 (.slice A5 m.l.length cap5)).set_ 1 (.int .i64 m.room)).set_ 2 (.int .i64 m.hand))
      simp only [List.setIfInBounds_toArray, List.set_cons_zero, List.set_cons_succ] at b5
      refine bodyPost_ret (results_cell_row3 rfl _ _ (w.heap.size + 1) 32 #[.slice A5 m.l.length cap5, .int .i64 m.room, .int .i64 m.hand] (0, 0) _ rfl b5 Try.underlying32 rfl (by kernel_rfl)) rfl ?_
      have hz : w.heap.size ≤ w.heap.size + 1 := by omega
      refine ⟨⟨_, rfl, ?_⟩, (((HB4.out.drew.trans (Below.mono hb5 (by have := HB4.out.size; simpa using this))).setCell (p := ⟨w.heap.size + 1, 0, none⟩) hz _).setCell (p := ⟨w.heap.size + 1, 1, none⟩) hz _).setCell (p := ⟨w.heap.size + 1, 2, none⟩) hz _⟩
      show RefAt _ base _ (m.l.set i { p with mark := true })
      rw [show ({ p with mark := true } : Pl) = { p with ver := ver, mark := true } by rw [← HV.out]]
      have hr6 : w5.ownsRow base 60 4 (.slice A5 m.l.length cap5) (m.l.set i { p with ver := ver, mark := true }).length ((m.l.set i { p with ver := ver, mark := true }).flatMap Pl.cells) := by have := hr5; unfold RefAt at this; simpa using this
      refine row_keep hr6 fun g' hg' => ?_
      have hne : g' ≠ w.heap.size + 1 := by
        obtain ⟨_, cur, hc⟩ := row_blk hr6 hg'
        exact hc.ne_ (HB1.out.drew.keep hb5) (by decide)
      rw [Below.heap_setCell _ _ _ _ hne, Below.heap_setCell _ _ _ _ hne, Below.heap_setCell _ _ _ _ hne]
    · have fin : getM m k ver = (m, ⟨#[]⟩, false) := by simp [getM, hf, hp, hv]
      rw [fin]
      obtain ⟨g, cap', hcap, _, d0, d1, d2, d3, hgl⟩ := H.out.at_ hp
      cases hcap
      have hgl1 : g < w.heap.size + 1 := by omega
      have hgl2 : g < w.heap.size + 1 + 1 := by omega
      have hgl3 : g < w.heap.size + 1 + 1 + 1 := by omega
      have hne : (p.ver != ver) = true := by simpa using hv
      clear hf hI fin hp hk hv
      go_enter Try.func15, Try.ntmps15
      go_wp2_with fail
      refine (find_calls (H.out.keep ?_) hlen _ _ k).mono ?_
      · exact ((Below.refl _ w).alloc (Nat.le_refl _) _).alloc (by simp) _
      rintro e w' ⟨rfl, rfl⟩
      rw [HI.out]
      go_wp2
      refine bodyPost_ret (results_cell_row3 rfl _ _ (w.heap.size + 1) 32 #[.slice (some ⟨g, 0, none⟩) m.l.length cap, .int .i64 m.room, .int .i64 m.hand] (0, 0) _ rfl ?_ Try.underlying32 rfl (by kernel_rfl)) rfl ?_
      · rw [heap_alloc_if, if_neg (by simp), heap_alloc_if, if_pos (by simp)]
      · exact ⟨⟨_, rfl, H.out.keep ((((Below.refl _ w).alloc (Nat.le_refl _) _).alloc (by simp) _).alloc (by simp; omega) _)⟩, (((Below.refl _ w).alloc (Nat.le_refl _) _).alloc (by simp) _).alloc (by simp; omega) _⟩
end Go.Proofs.Ytjnghgalniapjaa
