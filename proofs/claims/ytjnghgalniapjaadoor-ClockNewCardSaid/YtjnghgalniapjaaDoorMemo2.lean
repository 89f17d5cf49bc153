/- The memo's Put where the text is new: a place is free, or one is taken. -/
import Derived.Test.YtjnghgalniapjaaDoorMemo
set_option linter.unusedSimpArgs false
set_option linter.unusedVariables false
namespace Go.Proofs.YtjnghgalniapjaaDoor
open Go.RowKit

set_option maxHeartbeats 1000000 in
set_option maxRecDepth 100000 in
theorem put_full {w : World} {base b mb : Nat} {pv : Value} {m : Memo} (h : MemoAt w base b mb pv m) (hbase : base ≤ w.heap.size) (k v : ByteArray) (ver : Int) (hf : findP k m.l = none) (hfull : m.l.length = m.room) :
    Calls Tryd.prog 9 #[.pointer (some ⟨b, 0, none⟩), .string k, .int .i64 ver, .string v] w fun e w' =>
      e = .returned (.tuple #[]) ∧ MemoAt w' base b mb pv (putM m k ver v) ∧ Fr w w' (MemoFp b mb pv) := by
  obtain ⟨kvs, hm1, hm2⟩ := h.map
  have e2 : lookK k kvs = (findP k m.l).map fun i : Nat => Value.int .i64 (i : Int) := hm2.2 k
  have hlk := run_lookK (P := Tryd.prog) (w := w.alloc (.cells #[.string k, .int .i64 ver, .string v, .bool true] 49)) (d := .string) (kf := Value.string) true Tryd.underlying42 Tryd.underlying9 (z := .int .i64 0) (by kernel_rfl) (hm1.alloc _) k
  rw [e2, hf] at hlk
  simp only [Option.map_none, Option.getD_none, Option.isSome_none, if_true] at hlk
  have c3 : w.cell? ⟨b, 3, none⟩ = some (.map (some mb)) := by rw [h.blk.cell]; rfl
  have hbl := h.blk.lt
  have H := Lib.hid h
  have HF := Lib.hid hf
  have HL := Lib.hid hfull
  clear e2 h hf hm1 hm2 hfull
  go_enter Tryd.func9, Tryd.ntmps9
  go_wp2
  have H1 := H.out.keep ((Below.refl _ _).alloc (Nat.le_refl _) (.cells #[.string k, .int .i64 ver, .string v, .bool true] 49))
  have B1 := Blk.new w 49 #[.string k, .int .i64 ver, .string v, .bool true]
  have F1 := (Fr.refl w (MemoFp b mb pv)).alloc (.cells #[.string k, .int .i64 ver, .string v, .bool true] 49)
  clear c3 hlk hbl
  generalize w.alloc (.cells #[.string k, .int .i64 ver, .string v, .bool true] 49) = w1 at H1 B1 F1 ⊢
  obtain ⟨A, cap0, hpv⟩ := row_slice H1.row
  have c0 : w1.cell? ⟨b, 0, none⟩ = some (.slice A m.l.length cap0) := by rw [H1.blk.cell, ← hpv]; rfl
  have c1 : w1.cell? ⟨b, 1, none⟩ = some (.int .i64 m.room) := by rw [H1.blk.cell]; rfl
  have hlt : decide ((m.l.length : Int) < (m.room : Int)) = false := by have := HL.out; simp; omega
  have hlt' : decide (m.l.length < m.room) = false := by have := HL.out; simp; omega
  have HH := Lib.hid H1
  have HB := Lib.hid B1
  have HFr := Lib.hid F1
  have HPV := Lib.hid hpv
  clear H1 B1 F1 hpv
  go_quiet (fail)
  go_wp2_with fail
  clear c0 c1 hlt hlt'
  refine (victim_calls (HH.out.keep (by first | exact (Below.refl _ _).drew | exact ⟨rfl, rfl, rfl, Nat.le_refl _, fun _ _ => rfl⟩)) HL.out).mono ?_
  rintro e w2 ⟨l', i, hs, rfl, hM2, hF2⟩
  go_wp2_with fail
  have hi : i < m.room := by have := sweep_hand HH.out.ok.lo (marks m.l + 1) m.l m.hand HH.out.ok.hand; rw [hs] at this; exact this
  have hll : l'.length = m.room := by have := sweep_length m.room (marks m.l + 1) m.l m.hand; rw [hs] at this; exact this.trans HL.out
  obtain ⟨p, hp⟩ : ∃ p, l'[i]? = some p := ⟨l'[i]'(by omega), List.getElem?_eq_getElem (by omega)⟩
  obtain ⟨g, cap, rfl, d0, d1, d2, d3, hfz⟩ := place_at hM2 hp
  have hlt : i < l'.length := by omega
  have c0 : w2.cell? ⟨b, 0, none⟩ = some (.slice (some ⟨g, 0, none⟩) l'.length cap) := by rw [hM2.blk.cell]; rfl
  have c3 : w2.cell? ⟨b, 3, none⟩ = some (.map (some mb)) := by rw [hM2.blk.cell]; rfl
  obtain ⟨kvs2, hk1, hk2⟩ := hM2.map
  have HM := Lib.hid hk1
  have HI := Lib.hid hk2
  have HS := Lib.hid hs
  have HM2 := Lib.hid hM2
  have HF2 := Lib.hid hF2
  have HP := Lib.hid hp
  have HLL := Lib.hid hll
  clear hk1 hk2 hs hM2 hF2 hp hll hfz d1 d2 d3 hi
  go_still_tail 12, (by kernel_rfl)
  go_wp2_with (at_delete; refine wpList_delK (κ := ByteArray) (kf := Value.string) (d := .string) rfl _ _ _ _ rfl Tryd.underlying42 Tryd.underlying9 mb kvs2 p.k rfl rfl ?_ ?_; exact HM.out.drew; intro w3 hm3 hg3 hz3)
  have hnf : ¬ MemoFp b mb (.slice (some ⟨g, 0, none⟩) l'.length cap) w.heap.size := fun e => absurd (H.out.fp_lt _ (by rcases e with e | e | e; exact .inl e; exact .inr (.inl e); exact .inr (.inr e))) (by omega)
  have hB2 : Blk w2 w.heap.size 49 #[.string k, .int .i64 ver, .string v, .bool true] := (HB.out.drewN _).fr HF2.out hnf
  have hmb : some w.heap.size ≠ some mb := fun e => hnf (.inr (.inl (by injection e)))
  have hB3 : Blk w3 w.heap.size 49 #[.string k, .int .i64 ver, .string v, .bool true] := hB2.drew.grown hg3 hmb
  have hbm : b ≠ mb := fun e => (HM.out.ne_blk HM2.out.blk) e.symm
  have hblk3 := (HM2.out.blk.drew).grown hg3 (by simpa using hbm)
  obtain ⟨_, cur, hgb⟩ := row_blk HM2.out.row (g := g) rfl
  have hgm : g ≠ mb := fun e => (HM.out.ne_blk hgb) e.symm
  have hbg : ¬ b = g := HM2.out.blk.ne_ hgb (by decide)
  have hgb' : ¬ g = b := fun e => hbg e.symm
  have hrow3 : w3.ownsRow base 49 4 (.slice (some ⟨g, 0, none⟩) l'.length cap) l'.length (l'.flatMap Pl.cells) := row_grown (w := w2.drew) HM2.out.row hg3 (fun g' e => by simp [Value.ownBlock] at e; subst e; simpa using hgm)
  obtain ⟨g1, cap1, cur1, hv1, _, _, _, _, hcells, hfz⟩ := row_form hrow3 (by omega)
  simp only [Value.slice.injEq, Option.some.injEq, Addr.mk.injEq, true_and, and_true] at hv1
  obtain ⟨rfl, rfl⟩ := hv1
  have d0 := hcells _ _ ((flat_get pl_len l' i 0 p HP.out (by omega)).trans rfl)
  have d1 := hcells _ _ ((flat_get pl_len l' i 1 p HP.out (by omega)).trans rfl)
  have d2 := hcells _ _ ((flat_get pl_len l' i 2 p HP.out (by omega)).trans rfl)
  have d3 := hcells _ _ ((flat_get pl_len l' i 3 p HP.out (by omega)).trans rfl)
  simp only [Nat.add_zero] at d0
  have f0 := hfz (i * 4)
  have f1 := hfz (i * 4 + 1)
  have f2 := hfz (i * 4 + 2)
  have f3 := hfz (i * 4 + 3)
  have c0 : w3.cell? ⟨b, 0, none⟩ = some (.slice (some ⟨g, 0, none⟩) l'.length cap) := by rw [hblk3.cell]; rfl
  have c3 : w3.cell? ⟨b, 3, none⟩ = some (.map (some mb)) := by rw [hblk3.cell]; rfl
  have n0 : w3.cell? ⟨w.heap.size, 0, none⟩ = some (.string k) := by rw [hB3.cell]; rfl
  have n1 : w3.cell? ⟨w.heap.size, 1, none⟩ = some (.int .i64 ver) := by rw [hB3.cell]; rfl
  have n2 : w3.cell? ⟨w.heap.size, 2, none⟩ = some (.string v) := by rw [hB3.cell]; rfl
  have n3 : w3.cell? ⟨w.heap.size, 3, none⟩ = some (.bool true) := by rw [hB3.cell]; rfl
  have HM3 := Lib.hid hm3
  have HG3 := Lib.hid hg3
  have HBLK3 := Lib.hid hblk3
  have HROW3 := Lib.hid hrow3
  have HGM := Lib.hid hgm
  have HMG := Lib.hid (fun e => hgm e.symm : mb ≠ g)
  have HBM := Lib.hid hbm
  clear hnf hB2 hmb hB3 hbm hblk3 hgb hgm hrow3 hcells hfz hm3 hg3 hz3
  go_still_tail 7, (by kernel_rfl)
  go_wp2_with (at_mapUpdate; refine wpList_putK (κ := ByteArray) (kf := Value.string) (d := .string) rfl _ _ _ _ rfl Tryd.underlying42 Tryd.underlying9 mb (delK p.k kvs2) k (.int .i64 i) rfl rfl rfl ?_ ?_; exact ((((HM3.out.drew.far HMG.out _).far HMG.out _).far HMG.out _).far HMG.out _); intro w4 hm4 hg4 hz4)
  go_end0
  have hkn : k ∉ m.l.map (·.k) := findP_none.1 HF.out
  have hfin : putM m k ver v = ⟨l'.set i ⟨k, ver, v, true⟩, m.room, (i + 1) % m.room⟩ := by
    have := HL.out
    have e := HS.out
    simp [putM, HF.out, this]
    simp [this, e]
  rw [hfin]
  have hok := putM_ok H.out.ok k ver v
  rw [hfin] at hok
  have hkeys : l'.map (·.k) = m.l.map (·.k) := by have := sweep_keys m.room (marks m.l + 1) m.l m.hand; rw [HS.out] at this; exact this
  have hcp : (Value.slice (some ⟨g, 0, none⟩) l'.length cap) = .slice (some ⟨g, 0, none⟩) l'.length cap := rfl
  refine ⟨rfl, put_tail (w1 := w3) HM2.out.bb HM2.out.bm HBLK3.out HROW3.out HP.out hok hm4 ?_ HBM.out HGM.out hg4, ?_⟩
  · refine ((HI.out.del p.k).put k (.int .i64 i)).congr fun j => ?_
    rw [findP_replace HM2.out.ok.nodup HP.out (by rw [hkeys]; exact hkn)]
    by_cases e : j = k
    · rw [if_pos e, if_pos e]; rfl
    · rw [if_neg e, if_neg e]
      by_cases e' : j = p.k
      · rw [if_pos e', if_pos e']; rfl
      · rw [if_neg e', if_neg e']
  · have fr3 := (((HFr.out.drewN _).trans HF2.out (fun i h => .inl h)).drew.grown HG3.out (fun k hk => .inl (.inr (.inl (by injection hk with hk; exact hk.symm)))))
    exact ((((fr3.drew.setCell (p := ⟨g, i * 4, none⟩) (.inl (.inr (.inr rfl))) _).setCell (p := ⟨g, i * 4 + 1, none⟩) (.inl (.inr (.inr rfl))) _).setCell (p := ⟨g, i * 4 + 2, none⟩) (.inl (.inr (.inr rfl))) _).setCell (p := ⟨g, i * 4 + 3, none⟩) (.inl (.inr (.inr rfl))) _).grown hg4 (fun k hk => .inl (.inr (.inl (by injection hk with hk; exact hk.symm))))
theorem place_info : (Tryd.prog.info? 49).map (fun i => (i.zero, i.size, i.bytes)) = some (some (.agg #[.string ⟨#[]⟩, .int .i64 0, .string ⟨#[]⟩, .bool false]), 4, 48) := by kernel_rfl
def zeroPl : Pl := ⟨⟨#[]⟩, 0, ⟨#[]⟩, false⟩

theorem memo_grown {w1 w3 : World} {base b mb : Nat} {pv : Value} {m : Memo} (h : MemoAt w1 base b mb pv m) {o : Obj} {q : Nat} (hg : ((w1.drewN q).alloc o).grownBy w3 pv.ownBlock) :
    Blk w3 b 45 #[pv, .int .i64 m.room, .int .i64 m.hand, .map (some mb)] ∧ (∀ kvs, MapK Value.string w1 mb kvs → MapK Value.string w3 mb kvs) ∧ Fr w1 w3 (MemoFp b mb pv) := by
  refine ⟨((h.blk.drewN q).alloc o).grown hg ?_, fun kvs hk => ((hk.drewN q).alloc o).grown hg ?_, (((Fr.refl w1 _).drewN q).alloc o).grown hg fun k hk => .inl (.inr (.inr hk))⟩
  · intro e
    obtain ⟨_, cur, hc⟩ := row_blk h.row e.symm
    exact h.blk.ne_ hc (by decide) rfl
  · intro e
    obtain ⟨_, cur, hc⟩ := row_blk h.row e.symm
    exact hk.ne_blk hc rfl

set_option maxHeartbeats 1000000 in
set_option maxRecDepth 100000 in
theorem put_room {w : World} {base b mb : Nat} {pv : Value} {m : Memo} (h : MemoAt w base b mb pv m) (hbase : base ≤ w.heap.size) (k v : ByteArray) (ver : Int) (hf : findP k m.l = none) (hroom : m.l.length < m.room) :
    Calls Tryd.prog 9 #[.pointer (some ⟨b, 0, none⟩), .string k, .int .i64 ver, .string v] w fun e w' =>
      e = .returned (.tuple #[]) ∧ (∃ pv', MemoAt w' base b mb pv' (putM m k ver v)) ∧ Fr w w' (MemoFp b mb pv) := by
  obtain ⟨kvs, hm1, hm2⟩ := h.map
  have e2 : lookK k kvs = (findP k m.l).map fun i : Nat => Value.int .i64 (i : Int) := hm2.2 k
  have hlk := run_lookK (P := Tryd.prog) (w := w.alloc (.cells #[.string k, .int .i64 ver, .string v, .bool true] 49)) (d := .string) (kf := Value.string) true Tryd.underlying42 Tryd.underlying9 (z := .int .i64 0) (by kernel_rfl) (hm1.alloc _) k
  rw [e2, hf] at hlk
  simp only [Option.map_none, Option.getD_none, Option.isSome_none, if_true] at hlk
  have c3 : w.cell? ⟨b, 3, none⟩ = some (.map (some mb)) := by rw [h.blk.cell]; rfl
  have hbl := h.blk.lt
  have H := Lib.hid h
  have HF := Lib.hid hf
  have HL := Lib.hid hroom
  clear e2 h hf hm1 hm2 hroom
  go_enter Tryd.func9, Tryd.ntmps9
  go_wp2
  have H1 := H.out.keep ((Below.refl _ _).alloc (Nat.le_refl _) (.cells #[.string k, .int .i64 ver, .string v, .bool true] 49))
  have B1 := Blk.new w 49 #[.string k, .int .i64 ver, .string v, .bool true]
  have F1 := (Fr.refl w (MemoFp b mb pv)).alloc (.cells #[.string k, .int .i64 ver, .string v, .bool true] 49)
  have hz1 : w.heap.size < (w.alloc (.cells #[.string k, .int .i64 ver, .string v, .bool true] 49)).heap.size := by simp
  clear c3 hlk hbl
  generalize w.alloc (.cells #[.string k, .int .i64 ver, .string v, .bool true] 49) = w1 at H1 B1 F1 hz1 ⊢
  obtain ⟨A, cap0, hpv⟩ := row_slice H1.row
  have c0 : w1.cell? ⟨b, 0, none⟩ = some (.slice A m.l.length cap0) := by rw [H1.blk.cell, ← hpv]; rfl
  have c1 : w1.cell? ⟨b, 1, none⟩ = some (.int .i64 m.room) := by rw [H1.blk.cell]; rfl
  have f0 := H1.blk.frozen 0
  have hlt : decide ((m.l.length : Int) < (m.room : Int)) = true := by have := HL.out; simp; omega
  have hlt' : decide (m.l.length < m.room) = true := by have := HL.out; simp; omega
  have HH := Lib.hid H1
  have HB := Lib.hid B1
  have HFr := Lib.hid F1
  have HPV := Lib.hid hpv
  have HZ := Lib.hid hz1
  have hbl1 := H1.blk.lt
  clear H1 B1 F1 hpv hz1
  obtain ⟨ip, hip, hpz, hps, hpb⟩ := info_parts place_info
  have hrow : ∀ q, (w1.drewN q).ownsRow base 49 4 (.slice A m.l.length cap0) m.l.length (m.l.flatMap Pl.cells) := fun q => by have := HH.out.row; rw [HPV.out] at this; exact this
  have HROW := Lib.hid hrow
  have HI := Lib.hid (And.intro hip (And.intro hpz (And.intro hps hpb)))
  clear hrow hip hpz hps hpb
  go_quiet (fail)
  go_wp2_with (at_builtin; go_must (refine wpList_append_own_at _ rfl (.tmp 62) (.tmp 64) _ rfl base 49 ip _ 4 48 Tryd.underlying43 HI.out.1 HI.out.2.1 HI.out.2.2.1 HI.out.2.2.2 rfl (by omega) (.slice A m.l.length cap0) m.l.length (m.l.flatMap Pl.cells) rfl ((HROW.out _).alloc _) ⟨w1.heap.size, 0, none⟩ 1 1 zeroPl.cells rfl rfl ?_ ?_ ?_ ?_ ?_ ?_); (go_must (exact cells_new (w1.drewN _) _ _)); (go_must (intro u hu; simp [zeroPl, Pl.cells] at hu; rcases hu with rfl | rfl | rfl | rfl <;> rfl)); (go_must (have := HL.out; have := HH.out.ok.hi; simp only [maxLen]; omega)); (go_must (have := HL.out; have := HH.out.ok.hi; omega)); (go_must (have := HZ.out; simp; omega)); intro v3 w3 hown3 hg3 hnil3 hat3; obtain ⟨A3, cap3, hv3⟩ := row_slice hown3; subst hv3; rw [← HPV.out] at hg3; obtain ⟨hblk3, hmap3, hfr3⟩ := memo_grown HH.out hg3; have c03 := hblk3.cell 0; have f03 := hblk3.frozen 0; simp only [List.getElem?_toArray, List.getElem?_cons_zero] at c03; have HO3 := Lib.hid hown3; have HBL3 := Lib.hid hblk3; have HMA3 := Lib.hid hmap3; have HFR3 := Lib.hid hfr3; have HAT := Lib.hid hat3; clear hown3 hblk3 hmap3 hfr3 hat3 hg3 hnil3)
  have hnf : ¬ MemoFp b mb pv w.heap.size := fun e => absurd (H.out.fp_lt _ e) (by omega)
  have hbn : w.heap.size ≠ b := fun e => hnf (.inl e)
  have hB4 : Blk (w3.setCell ⟨b, 0, none⟩ (.slice A3 (m.l.length + 1) cap3)) w.heap.size 49 #[.string k, .int .i64 ver, .string v, .bool true] := (HB.out.fr HFR3.out hnf).far hbn _
  have hblk4 := HBL3.out.set_ 0 (.slice A3 (m.l.length + 1) cap3)
  have hfl : m.l.flatMap Pl.cells ++ zeroPl.cells = (m.l ++ [zeroPl]).flatMap Pl.cells := by simp
  have hrow3 := HO3.out
  rw [hfl] at hrow3
  have hrow4 : (w3.setCell ⟨b, 0, none⟩ (.slice A3 (m.l.length + 1) cap3)).ownsRow base 49 4 (.slice A3 (m.l.length + 1) cap3) (m.l.length + 1) ((m.l ++ [zeroPl]).flatMap Pl.cells) :=
    row_keep hrow3 fun g hg => Below.heap_setCell _ _ _ _ (by obtain ⟨_, cur, hc⟩ := row_blk hrow3 hg; exact fun e => (hc.ne_ HBL3.out (by decide)) e)
  obtain ⟨kvs, hk1, hk2⟩ := HH.out.map
  have hmap4 : MapK Value.string (w3.setCell ⟨b, 0, none⟩ (.slice A3 (m.l.length + 1) cap3)) mb kvs := (HMA3.out kvs hk1).far (p := ⟨b, 0, none⟩) (hk1.ne_blk HH.out.blk) _
  have hfr4 : Fr w (w3.setCell ⟨b, 0, none⟩ (.slice A3 (m.l.length + 1) cap3)) (MemoFp b mb pv) := (HFr.out.trans HFR3.out (fun i h => .inl h)).setCell (p := ⟨b, 0, none⟩) (.inl (.inl rfl)) _
  have hbm : b ≠ mb := fun e => (hk1.ne_blk HH.out.blk) e.symm
  simp only [List.setIfInBounds_toArray, List.set_cons_zero] at hblk4
  obtain ⟨g, cap4, cur, hv4, hgb, _, _, hgblk, hcells, hfz⟩ := row_form hrow4 (by omega)
  obtain ⟨rfl, rfl⟩ : A3 = some ⟨g, 0, none⟩ ∧ cap3 = cap4 := by injection hv4 with e1 _ e2; exact ⟨e1, e2⟩
  have hgfp : MemoFp b mb pv g ∨ w.heap.size ≤ g := by
    rcases HAT.out with e | e
    · rw [← HPV.out] at e
      exact .inl (.inr (.inr (by rw [← e]; rfl)))
    · right
      simp only [Value.ownBlock, Option.some.injEq] at e
      have := HZ.out
      simp at e
      omega
  have hFR4 := hfr4
  clear c0 c1 f0 hlt hlt' hbl1 hbn hnf hfl hrow3 c03 f03
  generalize w3.setCell ⟨b, 0, none⟩ (.slice (some ⟨g, 0, none⟩) (m.l.length + 1) cap3) = w4 at hB4 hblk4 hrow4 hmap4 hfr4 hFR4 hgblk hcells hfz ⊢
  have hP : (m.l ++ [zeroPl])[m.l.length]? = some zeroPl := by simp
  have hidx : (m.l.length : Int) < (m.l.length : Int) + 1 := by omega
  have d0 := hcells _ _ ((flat_get pl_len (m.l ++ [zeroPl]) m.l.length 0 zeroPl hP (by omega)).trans rfl)
  have d1 := hcells _ _ ((flat_get pl_len (m.l ++ [zeroPl]) m.l.length 1 zeroPl hP (by omega)).trans rfl)
  have d2 := hcells _ _ ((flat_get pl_len (m.l ++ [zeroPl]) m.l.length 2 zeroPl hP (by omega)).trans rfl)
  have d3 := hcells _ _ ((flat_get pl_len (m.l ++ [zeroPl]) m.l.length 3 zeroPl hP (by omega)).trans rfl)
  simp only [Nat.add_zero] at d0
  have f0 := hfz (m.l.length * 4)
  have f1 := hfz (m.l.length * 4 + 1)
  have f2 := hfz (m.l.length * 4 + 2)
  have f3 := hfz (m.l.length * 4 + 3)
  have c0 : w4.cell? ⟨b, 0, none⟩ = some (.slice (some ⟨g, 0, none⟩) (m.l.length + 1) cap3) := by rw [hblk4.cell]; rfl
  have c3 : w4.cell? ⟨b, 3, none⟩ = some (.map (some mb)) := by rw [hblk4.cell]; rfl
  have n0 : w4.cell? ⟨w.heap.size, 0, none⟩ = some (.string k) := by rw [hB4.cell]; rfl
  have n1 : w4.cell? ⟨w.heap.size, 1, none⟩ = some (.int .i64 ver) := by rw [hB4.cell]; rfl
  have n2 : w4.cell? ⟨w.heap.size, 2, none⟩ = some (.string v) := by rw [hB4.cell]; rfl
  have n3 : w4.cell? ⟨w.heap.size, 3, none⟩ = some (.bool true) := by rw [hB4.cell]; rfl
  have hbg : ¬ b = g := hblk4.ne_ hgblk (by decide)
  have hgb' : ¬ g = b := fun e => hbg e.symm
  have hmg : mb ≠ g := hmap4.ne_blk hgblk
  have HM4 := Lib.hid hmap4
  have HI4 := Lib.hid hk2
  have HBLK4 := Lib.hid hblk4
  have HROW4 := Lib.hid hrow4
  have HMG := Lib.hid hmg
  have HBM := Lib.hid hbm
  have HFR4 := Lib.hid hFR4
  have HGF := Lib.hid hgfp
  have HP := Lib.hid hP
  clear hB4 hblk4 hrow4 hk1 hk2 hmap4 hfr4 hFR4 hbm hv4 hgb hgblk hcells hfz hgfp hP hmg
  go_still_tail 7, (by kernel_rfl)
  go_wp2_with (at_mapUpdate; refine wpList_putK (κ := ByteArray) (kf := Value.string) (d := .string) rfl _ _ _ _ rfl Tryd.underlying42 Tryd.underlying9 mb kvs k (.int .i64 m.l.length) rfl rfl rfl ?_ ?_; exact ((((HM4.out.drew.far HMG.out _).far HMG.out _).far HMG.out _).far HMG.out _); intro w5 hm5 hg5 hz5)
  go_end0
  have hset : (m.l ++ [zeroPl]).set m.l.length ⟨k, ver, v, true⟩ = m.l ++ [⟨k, ver, v, true⟩] := by simp
  have hfin : putM m k ver v = ⟨(m.l ++ [zeroPl]).set m.l.length ⟨k, ver, v, true⟩, m.room, m.hand⟩ := by rw [hset]; simp [putM, HF.out, HL.out]
  rw [hfin]
  have hok := putM_ok H.out.ok k ver v
  rw [hfin] at hok
  have hlen : (m.l ++ [zeroPl]).length = m.l.length + 1 := by simp
  refine ⟨rfl, ⟨_, put_tail (w1 := w4) (l := m.l ++ [zeroPl]) (cap := cap3) H.out.bb H.out.bm (by rw [hlen]; exact HBLK4.out) (by rw [hlen]; exact HROW4.out) HP.out hok hm5 ?_ HBM.out (fun e => HMG.out e.symm) hg5⟩, ?_⟩
  · refine (HI4.out.put k (.int .i64 m.l.length)).congr fun j => ?_
    rw [hset, findP_append]
    by_cases e : j = k
    · rw [if_pos e, e, HF.out]; simp
    · rw [if_neg e]
      cases findP j m.l with
      | some i => rfl
      | none => simp [Ne.symm e]
  · have hG := HGF.out
    exact ((((HFR4.out.drew.setCell (p := ⟨g, m.l.length * 4, none⟩) hG _).setCell (p := ⟨g, m.l.length * 4 + 1, none⟩) hG _).setCell (p := ⟨g, m.l.length * 4 + 2, none⟩) hG _).setCell (p := ⟨g, m.l.length * 4 + 3, none⟩) hG _).grown hg5 (fun k hk => .inl (.inr (.inl (by injection hk with hk; exact hk.symm))))

theorem put_calls {w : World} {base b mb : Nat} {pv : Value} {m : Memo} (h : MemoAt w base b mb pv m) (hbase : base ≤ w.heap.size) (k v : ByteArray) (ver : Int) :
    Calls Tryd.prog 9 #[.pointer (some ⟨b, 0, none⟩), .string k, .int .i64 ver, .string v] w fun e w' =>
      e = .returned (.tuple #[]) ∧ (∃ pv', MemoAt w' base b mb pv' (putM m k ver v)) ∧ Fr w w' (MemoFp b mb pv) := by
  cases hf : findP k m.l with
  | some i => exact (put_found h hbase k v ver i hf).mono fun e w' ⟨h1, h2, h3⟩ => ⟨h1, ⟨_, h2⟩, h3⟩
  | none =>
    by_cases hr : m.l.length < m.room
    · exact put_room h hbase k v ver hf hr
    · exact (put_full h hbase k v ver hf (by have := h.ok.len; omega)).mono fun e w' ⟨h1, h2, h3⟩ => ⟨h1, ⟨_, h2⟩, h3⟩
end Go.Proofs.YtjnghgalniapjaaDoor
