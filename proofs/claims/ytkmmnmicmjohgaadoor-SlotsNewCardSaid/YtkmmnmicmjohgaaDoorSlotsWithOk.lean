/- (*Slots).with at a live handle. -/
import Derived.Test.YtkmmnmicmjohgaaDoorSlotsWith
set_option linter.unusedVariables false
set_option linter.unusedSimpArgs false
namespace Go.Proofs.YtkmmnmicmjohgaaDoor
open Go.RowKit Slots

theorem done_at {w w0 w1 : World} {b g : Nat} {s : St} {n m : Nat} {c : Cell} {d : Int} {T : TypeId} {vs : Array Value} (h : At w0 b g s) (hf : Fr w w0 (fun i => i = b ∨ i = g)) (hB : Blk w0 w.heap.size T vs) (hc : s.sl[n]? = some c)
    (hw : w1 = w0.drewN m ∧ d = 0 ∨ w1 = (w0.drewN m).setCell ⟨g, n * 3 + 1, none⟩ (.int .i64 (c.count + d))) (hb : b < w.heap.size) (hg : g < w.heap.size) :
    At w1 b g { s with sl := s.sl.set n ⟨c.gen, c.count + d, c.next⟩ } ∧ Fr w w1 (fun i => i = b ∨ i = g) ∧ Blk w1 w.heap.size T vs := by
  have hlen : n < s.sl.length := (List.getElem?_eq_some_iff.1 hc).1
  rcases hw with ⟨rfl, rfl⟩ | rfl
  · have hs : s.sl.set n ⟨c.gen, c.count + 0, c.next⟩ = s.sl := by
      rw [Int.add_zero]
      apply List.ext_getElem?
      intro j
      by_cases e : n = j
      · subst e; rw [List.getElem?_set_self hlen, hc]
      · rw [List.getElem?_set_ne e]
    rw [hs]
    exact ⟨⟨h.ne, h.blk.drewN m, h.row.drewN m⟩, hf.drewN m, hB.drewN m⟩
  · refine ⟨⟨h.ne, ?_, ?_⟩, (hf.drewN m).setCell (.inl (.inr rfl)) _, (hB.drewN m).far (by show w.heap.size ≠ g; omega) _⟩
    · have := (h.blk.drewN m).far (p := ⟨g, n * 3 + 1, none⟩) h.ne (.int .i64 (c.count + d))
      simpa using this
    · have := (h.row.drewN m).set_ (n * 3 + 1) (.int .i64 (c.count + d))
      rw [List.setIfInBounds_toArray, flat_set cell_len s.sl n 1 c ⟨c.gen, c.count + d, c.next⟩ (.int .i64 (c.count + d)) hc (by omega) rfl] at this
      exact this
set_option maxHeartbeats 2000000 in
theorem slots_with_add {w : World} {b g : Nat} {s : St} (h : At w b g s) {n : Nat} {c : Cell} (hc : s.sl[n]? = some c) (h0 : c.count ≠ 0) (hb : 0 ≤ c.count ∧ c.count ≤ 1000000) (hk : c.count + 1 ≠ 0) :
    Calls Tryd.prog 25 #[.pointer (some ⟨b, 0, none⟩), .agg #[.int .i64 n, .int .u64 c.gen], .func (Fn.func 31) #[] #[]] w fun e w' => e = .returned (.tuple #[.int .i64 (c.count + 1), .nilIface]) ∧ At w' b g { s with sl := s.sl.set n ⟨c.gen, c.count + 1, c.next⟩ } ∧ Fr w w' (fun i => i = b ∨ i = g) := by
  have hb0 := Blk.new w 34 #[.int .i64 n, .int .u64 c.gen]
  have HB0 := Lib.hid hb0
  have hA : At (w.alloc (.cells #[.int .i64 n, .int .u64 c.gen] 34)) b g s := ⟨h.ne, h.blk.alloc _, h.row.alloc _⟩
  have HA := Lib.hid hA
  have H0 := Lib.hid ((Fr.refl w (fun i => i = b ∨ i = g)).alloc (.cells #[.int .i64 n, .int .u64 c.gen] 34))
  have hlen : n < s.sl.length := (List.getElem?_eq_some_iff.1 hc).1
  clear hb0 hA
  have HH := Lib.hid h
  clear h
  go_enter Tryd.func25, Tryd.ntmps25
  go_wp2_with fail
  generalize w.alloc (.cells #[.int .i64 (n : Int), .int .u64 c.gen] 34) = w0 at HB0 HA H0 ⊢
  have c0 := HB0.out.cell 0
  have c1 := HB0.out.cell 1
  have b0 := HA.out.blk.cell 0
  have r0 := HA.out.cell hc 0 (by omega)
  have r1 := HA.out.cell hc 1 (by omega)
  simp only [List.getElem?_toArray, List.getElem?_cons_zero, List.getElem?_cons_succ, Cell.cells, Nat.add_zero] at c0 c1 b0 r0 r1
  have hl2 : (n : Int) < (s.sl.length : Int) := by omega
  go_quiet (fail)
  go_wp2_with fail
  go_quiet (fail)
  go_wp2_with fail
  have cb : (c.count == 0) = false := by simpa using h0
  go_quiet (fail)
  go_wp2_with fail
  refine (does_add (w0.drewN _) g (n * 3) c.count r1 (HA.out.row.frozen _) hb.1 hb.2).mono ?_
  rintro e w1 ⟨rfl, hw⟩
  have hA1 : At w1 b g { s with sl := s.sl.set n ⟨c.gen, c.count + 1, c.next⟩ } ∧ Fr w w1 (fun i => i = b ∨ i = g) ∧ Blk w1 w.heap.size 34 #[.int .i64 n, .int .u64 c.gen] := done_at HA.out H0.out HB0.out hc hw (HH.out.blk.lt) (HH.out.row.lt)
  have HA1 := Lib.hid hA1
  have hc1 : (s.sl.set n ⟨c.gen, c.count + 1, c.next⟩)[n]? = some ⟨c.gen, c.count + 1, c.next⟩ := List.getElem?_set_self hlen
  have q1 := hA1.1.cell hc1 1 (by omega)
  simp only [List.getElem?_cons_zero, List.getElem?_cons_succ, Cell.cells] at q1
  clear hA1 hw c0 c1 b0 r0 r1
  go_wp2_with fail
  go_ret2
  exact ⟨rfl, HA1.out.1, HA1.out.2.1⟩

set_option maxHeartbeats 2000000 in
theorem slots_with_drop {w : World} {b g : Nat} {s : St} (h : At w b g s) {n : Nat} {c : Cell} (hc : s.sl[n]? = some c) (h0 : c.count ≠ 0) (hb : 0 ≤ c.count ∧ c.count ≤ 1000000) (hk : c.count + (-1) ≠ 0) :
    Calls Tryd.prog 25 #[.pointer (some ⟨b, 0, none⟩), .agg #[.int .i64 n, .int .u64 c.gen], .func (Fn.func 32) #[] #[]] w fun e w' => e = .returned (.tuple #[.int .i64 (c.count + (-1)), .nilIface]) ∧ At w' b g { s with sl := s.sl.set n ⟨c.gen, c.count + (-1), c.next⟩ } ∧ Fr w w' (fun i => i = b ∨ i = g) := by
  have hb0 := Blk.new w 34 #[.int .i64 n, .int .u64 c.gen]
  have HB0 := Lib.hid hb0
  have hA : At (w.alloc (.cells #[.int .i64 n, .int .u64 c.gen] 34)) b g s := ⟨h.ne, h.blk.alloc _, h.row.alloc _⟩
  have HA := Lib.hid hA
  have H0 := Lib.hid ((Fr.refl w (fun i => i = b ∨ i = g)).alloc (.cells #[.int .i64 n, .int .u64 c.gen] 34))
  have hlen : n < s.sl.length := (List.getElem?_eq_some_iff.1 hc).1
  clear hb0 hA
  have HH := Lib.hid h
  clear h
  go_enter Tryd.func25, Tryd.ntmps25
  go_wp2_with fail
  generalize w.alloc (.cells #[.int .i64 (n : Int), .int .u64 c.gen] 34) = w0 at HB0 HA H0 ⊢
  have c0 := HB0.out.cell 0
  have c1 := HB0.out.cell 1
  have b0 := HA.out.blk.cell 0
  have r0 := HA.out.cell hc 0 (by omega)
  have r1 := HA.out.cell hc 1 (by omega)
  simp only [List.getElem?_toArray, List.getElem?_cons_zero, List.getElem?_cons_succ, Cell.cells, Nat.add_zero] at c0 c1 b0 r0 r1
  have hl2 : (n : Int) < (s.sl.length : Int) := by omega
  go_quiet (fail)
  go_wp2_with fail
  go_quiet (fail)
  go_wp2_with fail
  have cb : (c.count == 0) = false := by simpa using h0
  go_quiet (fail)
  go_wp2_with fail
  refine (does_drop (w0.drewN _) g (n * 3) c.count r1 (HA.out.row.frozen _) hb.1 hb.2).mono ?_
  rintro e w1 ⟨rfl, hw⟩
  have hA1 : At w1 b g { s with sl := s.sl.set n ⟨c.gen, c.count + (-1), c.next⟩ } ∧ Fr w w1 (fun i => i = b ∨ i = g) ∧ Blk w1 w.heap.size 34 #[.int .i64 n, .int .u64 c.gen] := done_at HA.out H0.out HB0.out hc hw (HH.out.blk.lt) (HH.out.row.lt)
  have HA1 := Lib.hid hA1
  have hc1 : (s.sl.set n ⟨c.gen, c.count + (-1), c.next⟩)[n]? = some ⟨c.gen, c.count + (-1), c.next⟩ := List.getElem?_set_self hlen
  have q1 := hA1.1.cell hc1 1 (by omega)
  simp only [List.getElem?_cons_zero, List.getElem?_cons_succ, Cell.cells] at q1
  clear hA1 hw c0 c1 b0 r0 r1
  go_wp2_with fail
  go_ret2
  exact ⟨rfl, HA1.out.1, HA1.out.2.1⟩

set_option maxHeartbeats 2000000 in
theorem slots_with_count {w : World} {b g : Nat} {s : St} (h : At w b g s) {n : Nat} {c : Cell} (hc : s.sl[n]? = some c) (h0 : c.count ≠ 0) (hb : 0 ≤ c.count ∧ c.count ≤ 1000000) (hk : c.count + 0 ≠ 0) :
    Calls Tryd.prog 25 #[.pointer (some ⟨b, 0, none⟩), .agg #[.int .i64 n, .int .u64 c.gen], .func (Fn.func 26) #[] #[]] w fun e w' => e = .returned (.tuple #[.int .i64 c.count, .nilIface]) ∧ At w' b g { s with sl := s.sl.set n ⟨c.gen, c.count + 0, c.next⟩ } ∧ Fr w w' (fun i => i = b ∨ i = g) := by
  have hb0 := Blk.new w 34 #[.int .i64 n, .int .u64 c.gen]
  have HB0 := Lib.hid hb0
  have hA : At (w.alloc (.cells #[.int .i64 n, .int .u64 c.gen] 34)) b g s := ⟨h.ne, h.blk.alloc _, h.row.alloc _⟩
  have HA := Lib.hid hA
  have H0 := Lib.hid ((Fr.refl w (fun i => i = b ∨ i = g)).alloc (.cells #[.int .i64 n, .int .u64 c.gen] 34))
  have hlen : n < s.sl.length := (List.getElem?_eq_some_iff.1 hc).1
  clear hb0 hA
  have HH := Lib.hid h
  clear h
  go_enter Tryd.func25, Tryd.ntmps25
  go_wp2_with fail
  generalize w.alloc (.cells #[.int .i64 (n : Int), .int .u64 c.gen] 34) = w0 at HB0 HA H0 ⊢
  have c0 := HB0.out.cell 0
  have c1 := HB0.out.cell 1
  have b0 := HA.out.blk.cell 0
  have r0 := HA.out.cell hc 0 (by omega)
  have r1 := HA.out.cell hc 1 (by omega)
  simp only [List.getElem?_toArray, List.getElem?_cons_zero, List.getElem?_cons_succ, Cell.cells, Nat.add_zero] at c0 c1 b0 r0 r1
  have hl2 : (n : Int) < (s.sl.length : Int) := by omega
  go_quiet (fail)
  go_wp2_with fail
  go_quiet (fail)
  go_wp2_with fail
  have cb : (c.count == 0) = false := by simpa using h0
  go_quiet (fail)
  go_wp2_with fail
  refine (does_count (w0.drewN _) g (n * 3) c.count r1 (HA.out.row.frozen _) hb.1 hb.2).mono ?_
  rintro e w1 ⟨rfl, hw⟩
  have hA1 : At w1 b g { s with sl := s.sl.set n ⟨c.gen, c.count + 0, c.next⟩ } ∧ Fr w w1 (fun i => i = b ∨ i = g) ∧ Blk w1 w.heap.size 34 #[.int .i64 n, .int .u64 c.gen] := done_at HA.out H0.out HB0.out hc hw (HH.out.blk.lt) (HH.out.row.lt)
  have HA1 := Lib.hid hA1
  have hc1 : (s.sl.set n ⟨c.gen, c.count + 0, c.next⟩)[n]? = some ⟨c.gen, c.count + 0, c.next⟩ := List.getElem?_set_self hlen
  have q1 := hA1.1.cell hc1 1 (by omega)
  simp only [List.getElem?_cons_zero, List.getElem?_cons_succ, Cell.cells] at q1
  clear hA1 hw c0 c1 b0 r0 r1
  go_wp2_with fail
  go_ret2
  exact ⟨rfl, HA1.out.1, HA1.out.2.1⟩

/-- free of what was counted down to nothing. -/
theorem slots_free_at {w : World} {b g : Nat} {s : St} (h : At w b g s) {n : Nat} {c : Cell} (hc : s.sl[n]? = some c) (hg : 0 ≤ c.gen ∧ c.gen ≤ 1000000) (hl : 0 ≤ s.left ∧ s.left ≤ 1000000) (hv : 0 ≤ s.live ∧ s.live ≤ 1000000) :
    Calls Tryd.prog 36 #[.pointer (some ⟨b, 0, none⟩), .int .i64 n] w fun e w' => e = .returned (.tuple #[]) ∧ At w' b g (s.freed n) ∧ Fr w w' (fun i => i = b ∨ i = g) := by
  by_cases hlast : c.gen = s.last
  · exact slots_free_last h hc hlast hv
  · exact slots_free_on h hc hlast hg hl hv

set_option maxHeartbeats 2000000 in
theorem slots_with_drop0 {w : World} {b g : Nat} {s : St} (h : At w b g s) {n : Nat} {c : Cell} (hc : s.sl[n]? = some c) (h0 : c.count = 1) (hg : 0 ≤ c.gen ∧ c.gen ≤ 1000000) (hl : 0 ≤ s.left ∧ s.left ≤ 1000000) (hv : 0 ≤ s.live ∧ s.live ≤ 1000000) :
    Calls Tryd.prog 25 #[.pointer (some ⟨b, 0, none⟩), .agg #[.int .i64 n, .int .u64 c.gen], .func (Fn.func 32) #[] #[]] w fun e w' => e = .returned (.tuple #[.int .i64 0, .nilIface]) ∧ At w' b g (({ s with sl := s.sl.set n ⟨c.gen, c.count + (-1), c.next⟩ } : St).freed n) ∧ Fr w w' (fun i => i = b ∨ i = g) := by
  have hb0 := Blk.new w 34 #[.int .i64 n, .int .u64 c.gen]
  have HB0 := Lib.hid hb0
  have hA : At (w.alloc (.cells #[.int .i64 n, .int .u64 c.gen] 34)) b g s := ⟨h.ne, h.blk.alloc _, h.row.alloc _⟩
  have HA := Lib.hid hA
  have H0 := Lib.hid ((Fr.refl w (fun i => i = b ∨ i = g)).alloc (.cells #[.int .i64 n, .int .u64 c.gen] 34))
  have hlen : n < s.sl.length := (List.getElem?_eq_some_iff.1 hc).1
  have HK := Lib.hid h0
  clear hb0 hA
  have HH := Lib.hid h
  clear h h0
  go_enter Tryd.func25, Tryd.ntmps25
  go_wp2_with fail
  generalize w.alloc (.cells #[.int .i64 (n : Int), .int .u64 c.gen] 34) = w0 at HB0 HA H0 ⊢
  have c0 := HB0.out.cell 0
  have c1 := HB0.out.cell 1
  have b0 := HA.out.blk.cell 0
  have r0 := HA.out.cell hc 0 (by omega)
  have r1 := HA.out.cell hc 1 (by omega)
  simp only [List.getElem?_toArray, List.getElem?_cons_zero, List.getElem?_cons_succ, Cell.cells, Nat.add_zero] at c0 c1 b0 r0 r1
  have hl2 : (n : Int) < (s.sl.length : Int) := by omega
  go_quiet (fail)
  go_wp2_with fail
  go_quiet (fail)
  go_wp2_with fail
  have cb : (c.count == 0) = false := by rw [HK.out]; rfl
  go_quiet (fail)
  go_wp2_with fail
  refine (does_drop (w0.drewN _) g (n * 3) c.count r1 (HA.out.row.frozen _) (by rw [HK.out]; decide) (by rw [HK.out]; decide)).mono ?_
  rintro e w1 ⟨rfl, hw⟩
  have hA1 : At w1 b g { s with sl := s.sl.set n ⟨c.gen, c.count + (-1), c.next⟩ } ∧ Fr w w1 (fun i => i = b ∨ i = g) ∧ Blk w1 w.heap.size 34 #[.int .i64 n, .int .u64 c.gen] := done_at HA.out H0.out HB0.out hc hw (HH.out.blk.lt) (HH.out.row.lt)
  have HA1 := Lib.hid hA1
  have hc1 : (s.sl.set n ⟨c.gen, c.count + (-1), c.next⟩)[n]? = some ⟨c.gen, c.count + (-1), c.next⟩ := List.getElem?_set_self hlen
  have q1 := hA1.1.cell hc1 1 (by omega)
  have z0 := hA1.2.2.cell 0
  simp only [List.getElem?_toArray, List.getElem?_cons_zero, List.getElem?_cons_succ, Cell.cells] at q1 z0
  rw [show c.count + -1 = 0 by rw [HK.out]; rfl] at q1
  clear hA1 hw c0 c1 b0 r0 r1
  have HC1 := Lib.hid hc1
  clear hc1
  go_wp2_with fail
  refine (slots_free_at HA1.out.1 HC1.out hg hl hv).mono ?_
  rintro e w2 ⟨rfl, hA2, hf2⟩
  have HA2 := Lib.hid hA2
  have HF2 := Lib.hid hf2
  clear hA2 hf2
  go_wp2_with fail
  go_ret2
  exact ⟨rfl, HA2.out, HA1.out.2.1.trans HF2.out (fun i hi => .inl hi)⟩

end Go.Proofs.YtkmmnmicmjohgaaDoor
