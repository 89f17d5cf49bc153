/- site.Same, walked: every order of its one region. -/
import Derived.Test.YtgljkgkmbfhgiaaDoorSiteOf
import Derived.Test.YtgljkgkmbfhgiaaDoorRegI
set_option linter.unusedVariables false
set_option linter.unusedSimpArgs false
set_option maxRecDepth 100000
namespace Go.Proofs.YtgljkgkmbfhgiaaDoor
open Go.RowKit Four Six Rec

def sameT (l : List Rule) (x y : OrgV) : Bool := !x.opq && (!y.opq && decide (siteT l x = siteT l y))
theorem info_org : (Tryd.prog.info? 49).map (·.size) = some 14 := by kernel_rfl
theorem org_size (o : OrgV) : o.cells.toArray.size = 14 := rfl
theorem mkB_beq (a b : List UInt8) : ((mkB a).toList == (mkB b).toList) = decide (a = b) := by rw [mkB_toList, mkB_toList, Bool.eq_iff_iff]; simp
set_option maxHeartbeats 4000000 in
theorem same17_calls {w : World} {t : Nat} {a : Addrs} {l : List Rule} {v : Int} (hT : TrieOk w t a l v) (hF : FW w) (x y : OrgV) (hx : x.h.ok) (hy : y.h.ok) (hx1 : x.h.name.size ≤ 200) (hx2 : x.scheme.size ≤ 200) (hy1 : y.h.name.size ≤ 200) (hy2 : y.scheme.size ≤ 200) :
    Calls Tryd.prog 32 #[.pointer (some ⟨t, 0, none⟩), .agg x.cells.toArray, .agg y.cells.toArray] w fun e w' => e = .returned (.bool (sameT l x y)) ∧ Below w.heap.size w w' := by
  have HX := Lib.hid (fun (W : World) (hb : Below w.heap.size w W) => of17_calls (hT.keep hb) (hF.keep hb) x hx hx1 hx2)
  have HY := Lib.hid (fun (W : World) (hb : Below w.heap.size w W) => of17_calls (hT.keep hb) (hF.keep hb) y hy hy1 hy2)
  clear hT hF hx hy hx1 hx2 hy1 hy2
  obtain ⟨bx, hbx⟩ : ∃ b, b = x.opq := ⟨_, rfl⟩
  obtain ⟨cy, hcy⟩ : ∃ b, b = y.opq := ⟨_, rfl⟩
  obtain ⟨e, he⟩ : ∃ b, b = decide (siteT l x = siteT l y) := ⟨_, rfl⟩
  have hres : sameT l x y = (!bx && (!cy && e)) := by unfold sameT; rw [hbx, hcy, he]
  have hcmp := mkB_beq (siteT l x) (siteT l y)
  rw [← he] at hcmp
  rw [hres]
  have d0 := orgc x
  have d1 := orgc y
  rw [← hbx] at d0
  rw [← hcy] at d1
  have z0 : x.cells.toArray[0]? = some (.bool bx) := by rw [d0]; rfl
  have z1 : y.cells.toArray[0]? = some (.bool cy) := by rw [d1]; rfl
  have s0 := org_size x
  have s1 := org_size y
  generalize siteT l x = SX at HX hcmp
  generalize siteT l y = SY at HY hcmp
  generalize x.cells.toArray = CX at *
  generalize y.cells.toArray = CY at *
  clear hbx hcy he hres d0 d1
  have HK1 := Lib.hid ((Blk.new w 49 CX).alloc (.cells CY 49))
  have HK2 := Lib.hid (show Blk ((w.alloc (.cells CX 49)).alloc (.cells CY 49)) (w.heap.size + 1) 49 CY by have := Blk.new (w.alloc (.cells CX 49)) 49 CY; simpa using this)
  have HB := Lib.hid (((Below.refl w.heap.size w).alloc (Nat.le_refl _) (.cells CX 49)).alloc (by simp) (.cells CY 49))
  have HZ := Lib.hid z0
  have HZ1 := Lib.hid z1
  have HS0 := Lib.hid s0
  have HS1 := Lib.hid s1
  clear z0 z1 s0 s1
  have hsz : ((w.alloc (.cells CX 49)).alloc (.cells CY 49)).heap.size = w.heap.size + 2 := by simp
  cases bx
  · cases cy
    · as_aux_lemma =>
      go_enter Tryd.func32, Tryd.ntmps32
      go_upto_region 1 with fail
      generalize (w.alloc (.cells CX 49)).alloc (.cells CY 49) = W at HK1 HK2 HB hsz ⊢
      refine wp_region_RI [.is (.pointer (some ⟨w.heap.size, 0, none⟩)), .is (.bool false), .is (.bool true), .is (.bool true), .is (.pointer (some ⟨(w.heap.size + 1), 0, none⟩)), .is (.bool false), .is (.bool true), .is (.bool true), .is (.bool true), .is (.pointer (some ⟨t, 0, none⟩)), .is (.agg CX), .is (.string (mkB SX)), .is (.pointer (some ⟨t, 0, none⟩)), .is (.agg CY), .is (.string (mkB SY)), .is (.bool e), .is (.bool e), .is (.bool e)] (by kernel_rfl) (by kernel_rfl) (by kernel_rfl) ?_ ?_
      · intro i o sp ho hs a w2 hbe htz hkept hdep
        have hi : i < 18 := (Array.getElem?_eq_some_iff.1 ho).1
        have hsz : a.tmps.size = 24 := htz
        have HBW := Lib.hid (belowOn HB.out HB.out.size hbe)
        have K1 := Lib.hid (HK1.out.keep hbe)
        have K2 := Lib.hid (HK2.out.keep hbe)
        have x0 := (K1.out.cell 0).trans HZ.out
        have y0 := (K2.out.cell 0).trans HZ1.out
        have lt1 := K1.out.lt
        have lt2 := K2.out.lt
        have hb0 : a.tmps.getD 0 undef = .pointer (some ⟨t, 0, none⟩) := hkept 0 (noDst_spec (by kernel_rfl))
        have hb4 : a.tmps.getD 4 undef = .pointer (some ⟨w.heap.size, 0, none⟩) := hkept 4 (noDst_spec (by kernel_rfl))
        have hb5 : a.tmps.getD 5 undef = .pointer (some ⟨(w.heap.size + 1), 0, none⟩) := hkept 5 (noDst_spec (by kernel_rfl))
        rcases (by omega : i = 0 ∨ i = 1 ∨ i = 2 ∨ i = 3 ∨ i = 4 ∨ i = 5 ∨ i = 6 ∨ i = 7 ∨ i = 8 ∨ i = 9 ∨ i = 10 ∨ i = 11 ∨ i = 12 ∨ i = 13 ∨ i = 14 ∨ i = 15 ∨ i = 16 ∨ i = 17) with rfl | rfl | rfl | rfl | rfl | rfl | rfl | rfl | rfl | rfl | rfl | rfl | rfl | rfl | rfl | rfl | rfl | rfl
        · as_aux_lemma =>
          obtain rfl := Option.some.inj ho
          obtain rfl := Option.some.inj hs
          have e4 : a.tmps.getD 4 undef = .pointer (some ⟨w.heap.size, 0, none⟩) := hb4
          exact wpOp_plain rfl rfl (u := .pointer (some ⟨w.heap.size, 0, none⟩)) (fun ρ hc hf ht => by have f4 := (ht 4).trans e4; clear ht; simp [go_sem, *]) ⟨_, rfl, rfl, Below.refl _ _⟩
        · as_aux_lemma =>
          obtain rfl := Option.some.inj ho
          obtain rfl := Option.some.inj hs
          have e7 : a.tmps.getD 7 undef = .pointer (some ⟨w.heap.size, 0, none⟩) := hdep 0 _ _ _ rfl rfl rfl (by kernel_rfl)
          exact wpOp_plain rfl rfl (u := .bool false) (fun ρ hc hf ht => by have f7 := (ht 7).trans e7; clear ht; have q0 := x0; simp [go_sem, *]) ⟨_, rfl, rfl, Below.refl _ _⟩
        · as_aux_lemma =>
          obtain rfl := Option.some.inj ho
          obtain rfl := Option.some.inj hs
          have e8 : a.tmps.getD 8 undef = .bool false := hdep 1 _ _ _ rfl rfl rfl (by kernel_rfl)
          exact wpOp_plain rfl rfl (u := .bool true) (fun ρ hc hf ht => by have f8 := (ht 8).trans e8; clear ht; simp [go_sem, *]) ⟨_, rfl, rfl, Below.refl _ _⟩
        · as_aux_lemma =>
          obtain rfl := Option.some.inj ho
          obtain rfl := Option.some.inj hs
          have e9 : a.tmps.getD 9 undef = .bool true := hdep 2 _ _ _ rfl rfl rfl (by kernel_rfl)
          exact wpOp_plain rfl rfl (u := .bool true) (fun ρ hc hf ht => by have f9 := (ht 9).trans e9; clear ht; simp [go_sem, *]) ⟨_, rfl, rfl, Below.refl _ _⟩
        · as_aux_lemma =>
          obtain rfl := Option.some.inj ho
          obtain rfl := Option.some.inj hs
          have e5 : a.tmps.getD 5 undef = .pointer (some ⟨(w.heap.size + 1), 0, none⟩) := hb5
          have e10 : a.tmps.getD 10 undef = .bool true := hdep 3 _ _ _ rfl rfl rfl (by kernel_rfl)
          exact wpOp_plain rfl (by simp [Region.wanted, yielded, got_some e10 (by omega)]) (u := .pointer (some ⟨(w.heap.size + 1), 0, none⟩)) (fun ρ hc hf ht => by have f5 := (ht 5).trans e5; clear ht; simp [go_sem, *]) ⟨_, rfl, rfl, Below.refl _ _⟩
        · as_aux_lemma =>
          obtain rfl := Option.some.inj ho
          obtain rfl := Option.some.inj hs
          have e11 : a.tmps.getD 11 undef = .pointer (some ⟨(w.heap.size + 1), 0, none⟩) := hdep 4 _ _ _ rfl rfl rfl (by kernel_rfl)
          have e10 : a.tmps.getD 10 undef = .bool true := hdep 3 _ _ _ rfl rfl rfl (by kernel_rfl)
          exact wpOp_plain rfl (by simp [Region.wanted, yielded, got_some e10 (by omega)]) (u := .bool false) (fun ρ hc hf ht => by have f11 := (ht 11).trans e11; clear ht; have q0 := y0; simp [go_sem, *]) ⟨_, rfl, rfl, Below.refl _ _⟩
        · as_aux_lemma =>
          obtain rfl := Option.some.inj ho
          obtain rfl := Option.some.inj hs
          have e12 : a.tmps.getD 12 undef = .bool false := hdep 5 _ _ _ rfl rfl rfl (by kernel_rfl)
          have e10 : a.tmps.getD 10 undef = .bool true := hdep 3 _ _ _ rfl rfl rfl (by kernel_rfl)
          exact wpOp_plain rfl (by simp [Region.wanted, yielded, got_some e10 (by omega)]) (u := .bool true) (fun ρ hc hf ht => by have f12 := (ht 12).trans e12; clear ht; simp [go_sem, *]) ⟨_, rfl, rfl, Below.refl _ _⟩
        · as_aux_lemma =>
          obtain rfl := Option.some.inj ho
          obtain rfl := Option.some.inj hs
          have e10 : a.tmps.getD 10 undef = .bool true := hdep 3 _ _ _ rfl rfl rfl (by kernel_rfl)
          have e13 : a.tmps.getD 13 undef = .bool true := hdep 6 _ _ _ rfl rfl rfl (by kernel_rfl)
          exact wpOp_plain rfl rfl (u := .bool true) (fun ρ hc hf ht => by have f10 := (ht 10).trans e10; have f13 := (ht 13).trans e13; clear ht; simp [go_sem, *]) ⟨_, rfl, rfl, Below.refl _ _⟩
        · as_aux_lemma =>
          obtain rfl := Option.some.inj ho
          obtain rfl := Option.some.inj hs
          have e14 : a.tmps.getD 14 undef = .bool true := hdep 7 _ _ _ rfl rfl rfl (by kernel_rfl)
          exact wpOp_plain rfl rfl (u := .bool true) (fun ρ hc hf ht => by have f14 := (ht 14).trans e14; clear ht; simp [go_sem, *]) ⟨_, rfl, rfl, Below.refl _ _⟩
        · as_aux_lemma =>
          obtain rfl := Option.some.inj ho
          obtain rfl := Option.some.inj hs
          have e0 : a.tmps.getD 0 undef = .pointer (some ⟨t, 0, none⟩) := hb0
          have e15 : a.tmps.getD 15 undef = .bool true := hdep 8 _ _ _ rfl rfl rfl (by kernel_rfl)
          exact wpOp_plain rfl (by simp [Region.wanted, yielded, got_some e15 (by omega)]) (u := .pointer (some ⟨t, 0, none⟩)) (fun ρ hc hf ht => by have f0 := (ht 0).trans e0; clear ht; simp [go_sem, *]) ⟨_, rfl, rfl, Below.refl _ _⟩
        · as_aux_lemma =>
          obtain rfl := Option.some.inj ho
          obtain rfl := Option.some.inj hs
          have e4 : a.tmps.getD 4 undef = .pointer (some ⟨w.heap.size, 0, none⟩) := hb4
          have e15 : a.tmps.getD 15 undef = .bool true := hdep 8 _ _ _ rfl rfl rfl (by kernel_rfl)
          exact wpOp_plain rfl (by simp [Region.wanted, yielded, got_some e15 (by omega)]) (u := .agg CX) (fun ρ hc hf ht => load_row _ rfl ((ht 4).trans e4) K1.out Tryd.underlying49 (by rw [HS0.out]; exact info_org)) ⟨_, rfl, rfl, Below.refl _ _⟩
        · as_aux_lemma =>
          obtain rfl := Option.some.inj ho
          obtain rfl := Option.some.inj hs
          have e16 : a.tmps.getD 16 undef = .pointer (some ⟨t, 0, none⟩) := hdep 9 _ _ _ rfl rfl rfl (by kernel_rfl)
          have e17 : a.tmps.getD 17 undef = .agg CX := hdep 10 _ _ _ rfl rfl rfl (by kernel_rfl)
          have e15 : a.tmps.getD 15 undef = .bool true := hdep 8 _ _ _ rfl rfl rfl (by kernel_rfl)
          refine wpOp_calls (f := 31) (args := #[.pointer (some ⟨t, 0, none⟩), .agg CX]) rfl (by simp [Region.wanted, yielded, got_some e15 (by omega)]) (fun ρ hc hf ht => by have f16 := (ht 16).trans e16; have f17 := (ht 17).trans e17; clear ht; simp [go_sem, *]) ?_
          exact (HX.out w2 HBW.out).mono fun e w' h => ⟨_, h.1, _, rfl, rfl, h.2⟩
        · as_aux_lemma =>
          obtain rfl := Option.some.inj ho
          obtain rfl := Option.some.inj hs
          have e0 : a.tmps.getD 0 undef = .pointer (some ⟨t, 0, none⟩) := hb0
          have e15 : a.tmps.getD 15 undef = .bool true := hdep 8 _ _ _ rfl rfl rfl (by kernel_rfl)
          exact wpOp_plain rfl (by simp [Region.wanted, yielded, got_some e15 (by omega)]) (u := .pointer (some ⟨t, 0, none⟩)) (fun ρ hc hf ht => by have f0 := (ht 0).trans e0; clear ht; simp [go_sem, *]) ⟨_, rfl, rfl, Below.refl _ _⟩
        · as_aux_lemma =>
          obtain rfl := Option.some.inj ho
          obtain rfl := Option.some.inj hs
          have e5 : a.tmps.getD 5 undef = .pointer (some ⟨(w.heap.size + 1), 0, none⟩) := hb5
          have e15 : a.tmps.getD 15 undef = .bool true := hdep 8 _ _ _ rfl rfl rfl (by kernel_rfl)
          exact wpOp_plain rfl (by simp [Region.wanted, yielded, got_some e15 (by omega)]) (u := .agg CY) (fun ρ hc hf ht => load_row _ rfl ((ht 5).trans e5) K2.out Tryd.underlying49 (by rw [HS1.out]; exact info_org)) ⟨_, rfl, rfl, Below.refl _ _⟩
        · as_aux_lemma =>
          obtain rfl := Option.some.inj ho
          obtain rfl := Option.some.inj hs
          have e19 : a.tmps.getD 19 undef = .pointer (some ⟨t, 0, none⟩) := hdep 12 _ _ _ rfl rfl rfl (by kernel_rfl)
          have e20 : a.tmps.getD 20 undef = .agg CY := hdep 13 _ _ _ rfl rfl rfl (by kernel_rfl)
          have e15 : a.tmps.getD 15 undef = .bool true := hdep 8 _ _ _ rfl rfl rfl (by kernel_rfl)
          refine wpOp_calls (f := 31) (args := #[.pointer (some ⟨t, 0, none⟩), .agg CY]) rfl (by simp [Region.wanted, yielded, got_some e15 (by omega)]) (fun ρ hc hf ht => by have f19 := (ht 19).trans e19; have f20 := (ht 20).trans e20; clear ht; simp [go_sem, *]) ?_
          exact (HY.out w2 HBW.out).mono fun e w' h => ⟨_, h.1, _, rfl, rfl, h.2⟩
        · as_aux_lemma =>
          obtain rfl := Option.some.inj ho
          obtain rfl := Option.some.inj hs
          have e18 : a.tmps.getD 18 undef = .string (mkB SX) := hdep 11 _ _ _ rfl rfl rfl (by kernel_rfl)
          have e21 : a.tmps.getD 21 undef = .string (mkB SY) := hdep 14 _ _ _ rfl rfl rfl (by kernel_rfl)
          have e15 : a.tmps.getD 15 undef = .bool true := hdep 8 _ _ _ rfl rfl rfl (by kernel_rfl)
          exact wpOp_plain rfl (by simp [Region.wanted, yielded, got_some e15 (by omega)]) (u := .bool e) (fun ρ hc hf ht => by have f18 := (ht 18).trans e18; have f21 := (ht 21).trans e21; clear ht; have q0 := hcmp; simp [go_sem, *]) ⟨_, rfl, rfl, Below.refl _ _⟩
        · as_aux_lemma =>
          obtain rfl := Option.some.inj ho
          obtain rfl := Option.some.inj hs
          have e15 : a.tmps.getD 15 undef = .bool true := hdep 8 _ _ _ rfl rfl rfl (by kernel_rfl)
          have e22 : a.tmps.getD 22 undef = .bool e := hdep 15 _ _ _ rfl rfl rfl (by kernel_rfl)
          exact wpOp_plain rfl rfl (u := .bool e) (fun ρ hc hf ht => by have f15 := (ht 15).trans e15; have f22 := (ht 22).trans e22; clear ht; simp [go_sem, *]) ⟨_, rfl, rfl, Below.refl _ _⟩
        · as_aux_lemma =>
          obtain rfl := Option.some.inj ho
          obtain rfl := Option.some.inj hs
          have e23 : a.tmps.getD 23 undef = .bool e := hdep 16 _ _ _ rfl rfl rfl (by kernel_rfl)
          exact wpOp_plain rfl rfl (u := .bool e) (fun ρ hc hf ht => by have f23 := (ht 23).trans e23; clear ht; simp [go_sem, *]) ⟨_, rfl, rfl, Below.refl _ _⟩
      · intro a w2 hall hdef hbe
        have er : a.tmps.getD 6 undef = .bool e := hall 17 _ _ _ rfl rfl rfl
        rename_i Q9 K9 hK9
        refine hK9 _ _ (wp_ret ?_)
        refine bodyPost_ret (results_tmp (t := 6) rfl a.tmps _ w2) hdef ?_
        rw [er]
        exact ⟨rfl, belowOn HB.out HB.out.size hbe⟩
    · as_aux_lemma =>
      go_enter Tryd.func32, Tryd.ntmps32
      go_upto_region 1 with fail
      generalize (w.alloc (.cells CX 49)).alloc (.cells CY 49) = W at HK1 HK2 HB hsz ⊢
      refine wp_region_RI [.is (.pointer (some ⟨w.heap.size, 0, none⟩)), .is (.bool false), .is (.bool true), .is (.bool true), .is (.pointer (some ⟨(w.heap.size + 1), 0, none⟩)), .is (.bool true), .is (.bool false), .is (.bool false), .is (.bool false), .is (undef), .is (undef), .is (undef), .is (undef), .is (undef), .is (undef), .is (undef), .is (.bool false), .is (.bool false)] (by kernel_rfl) (by kernel_rfl) (by kernel_rfl) ?_ ?_
      · intro i o sp ho hs a w2 hbe htz hkept hdep
        have hi : i < 18 := (Array.getElem?_eq_some_iff.1 ho).1
        have hsz : a.tmps.size = 24 := htz
        have HBW := Lib.hid (belowOn HB.out HB.out.size hbe)
        have K1 := Lib.hid (HK1.out.keep hbe)
        have K2 := Lib.hid (HK2.out.keep hbe)
        have x0 := (K1.out.cell 0).trans HZ.out
        have y0 := (K2.out.cell 0).trans HZ1.out
        have lt1 := K1.out.lt
        have lt2 := K2.out.lt
        have hb0 : a.tmps.getD 0 undef = .pointer (some ⟨t, 0, none⟩) := hkept 0 (noDst_spec (by kernel_rfl))
        have hb4 : a.tmps.getD 4 undef = .pointer (some ⟨w.heap.size, 0, none⟩) := hkept 4 (noDst_spec (by kernel_rfl))
        have hb5 : a.tmps.getD 5 undef = .pointer (some ⟨(w.heap.size + 1), 0, none⟩) := hkept 5 (noDst_spec (by kernel_rfl))
        rcases (by omega : i = 0 ∨ i = 1 ∨ i = 2 ∨ i = 3 ∨ i = 4 ∨ i = 5 ∨ i = 6 ∨ i = 7 ∨ i = 8 ∨ i = 9 ∨ i = 10 ∨ i = 11 ∨ i = 12 ∨ i = 13 ∨ i = 14 ∨ i = 15 ∨ i = 16 ∨ i = 17) with rfl | rfl | rfl | rfl | rfl | rfl | rfl | rfl | rfl | rfl | rfl | rfl | rfl | rfl | rfl | rfl | rfl | rfl
        · as_aux_lemma =>
          obtain rfl := Option.some.inj ho
          obtain rfl := Option.some.inj hs
          have e4 : a.tmps.getD 4 undef = .pointer (some ⟨w.heap.size, 0, none⟩) := hb4
          exact wpOp_plain rfl rfl (u := .pointer (some ⟨w.heap.size, 0, none⟩)) (fun ρ hc hf ht => by have f4 := (ht 4).trans e4; clear ht; simp [go_sem, *]) ⟨_, rfl, rfl, Below.refl _ _⟩
        · as_aux_lemma =>
          obtain rfl := Option.some.inj ho
          obtain rfl := Option.some.inj hs
          have e7 : a.tmps.getD 7 undef = .pointer (some ⟨w.heap.size, 0, none⟩) := hdep 0 _ _ _ rfl rfl rfl (by kernel_rfl)
          exact wpOp_plain rfl rfl (u := .bool false) (fun ρ hc hf ht => by have f7 := (ht 7).trans e7; clear ht; have q0 := x0; simp [go_sem, *]) ⟨_, rfl, rfl, Below.refl _ _⟩
        · as_aux_lemma =>
          obtain rfl := Option.some.inj ho
          obtain rfl := Option.some.inj hs
          have e8 : a.tmps.getD 8 undef = .bool false := hdep 1 _ _ _ rfl rfl rfl (by kernel_rfl)
          exact wpOp_plain rfl rfl (u := .bool true) (fun ρ hc hf ht => by have f8 := (ht 8).trans e8; clear ht; simp [go_sem, *]) ⟨_, rfl, rfl, Below.refl _ _⟩
        · as_aux_lemma =>
          obtain rfl := Option.some.inj ho
          obtain rfl := Option.some.inj hs
          have e9 : a.tmps.getD 9 undef = .bool true := hdep 2 _ _ _ rfl rfl rfl (by kernel_rfl)
          exact wpOp_plain rfl rfl (u := .bool true) (fun ρ hc hf ht => by have f9 := (ht 9).trans e9; clear ht; simp [go_sem, *]) ⟨_, rfl, rfl, Below.refl _ _⟩
        · as_aux_lemma =>
          obtain rfl := Option.some.inj ho
          obtain rfl := Option.some.inj hs
          have e5 : a.tmps.getD 5 undef = .pointer (some ⟨(w.heap.size + 1), 0, none⟩) := hb5
          have e10 : a.tmps.getD 10 undef = .bool true := hdep 3 _ _ _ rfl rfl rfl (by kernel_rfl)
          exact wpOp_plain rfl (by simp [Region.wanted, yielded, got_some e10 (by omega)]) (u := .pointer (some ⟨(w.heap.size + 1), 0, none⟩)) (fun ρ hc hf ht => by have f5 := (ht 5).trans e5; clear ht; simp [go_sem, *]) ⟨_, rfl, rfl, Below.refl _ _⟩
        · as_aux_lemma =>
          obtain rfl := Option.some.inj ho
          obtain rfl := Option.some.inj hs
          have e11 : a.tmps.getD 11 undef = .pointer (some ⟨(w.heap.size + 1), 0, none⟩) := hdep 4 _ _ _ rfl rfl rfl (by kernel_rfl)
          have e10 : a.tmps.getD 10 undef = .bool true := hdep 3 _ _ _ rfl rfl rfl (by kernel_rfl)
          exact wpOp_plain rfl (by simp [Region.wanted, yielded, got_some e10 (by omega)]) (u := .bool true) (fun ρ hc hf ht => by have f11 := (ht 11).trans e11; clear ht; have q0 := y0; simp [go_sem, *]) ⟨_, rfl, rfl, Below.refl _ _⟩
        · as_aux_lemma =>
          obtain rfl := Option.some.inj ho
          obtain rfl := Option.some.inj hs
          have e12 : a.tmps.getD 12 undef = .bool true := hdep 5 _ _ _ rfl rfl rfl (by kernel_rfl)
          have e10 : a.tmps.getD 10 undef = .bool true := hdep 3 _ _ _ rfl rfl rfl (by kernel_rfl)
          exact wpOp_plain rfl (by simp [Region.wanted, yielded, got_some e10 (by omega)]) (u := .bool false) (fun ρ hc hf ht => by have f12 := (ht 12).trans e12; clear ht; simp [go_sem, *]) ⟨_, rfl, rfl, Below.refl _ _⟩
        · as_aux_lemma =>
          obtain rfl := Option.some.inj ho
          obtain rfl := Option.some.inj hs
          have e10 : a.tmps.getD 10 undef = .bool true := hdep 3 _ _ _ rfl rfl rfl (by kernel_rfl)
          have e13 : a.tmps.getD 13 undef = .bool false := hdep 6 _ _ _ rfl rfl rfl (by kernel_rfl)
          exact wpOp_plain rfl rfl (u := .bool false) (fun ρ hc hf ht => by have f10 := (ht 10).trans e10; have f13 := (ht 13).trans e13; clear ht; simp [go_sem, *]) ⟨_, rfl, rfl, Below.refl _ _⟩
        · as_aux_lemma =>
          obtain rfl := Option.some.inj ho
          obtain rfl := Option.some.inj hs
          have e14 : a.tmps.getD 14 undef = .bool false := hdep 7 _ _ _ rfl rfl rfl (by kernel_rfl)
          exact wpOp_plain rfl rfl (u := .bool false) (fun ρ hc hf ht => by have f14 := (ht 14).trans e14; clear ht; simp [go_sem, *]) ⟨_, rfl, rfl, Below.refl _ _⟩
        · as_aux_lemma =>
          obtain rfl := Option.some.inj ho
          obtain rfl := Option.some.inj hs
          have e15 : a.tmps.getD 15 undef = .bool false := hdep 8 _ _ _ rfl rfl rfl (by kernel_rfl)
          exact wpOp_skipped rfl (by simp [Region.wanted, yielded, got_some e15 (by omega)]) ⟨_, rfl, rfl, Below.refl _ _⟩
        · as_aux_lemma =>
          obtain rfl := Option.some.inj ho
          obtain rfl := Option.some.inj hs
          have e15 : a.tmps.getD 15 undef = .bool false := hdep 8 _ _ _ rfl rfl rfl (by kernel_rfl)
          exact wpOp_skipped rfl (by simp [Region.wanted, yielded, got_some e15 (by omega)]) ⟨_, rfl, rfl, Below.refl _ _⟩
        · as_aux_lemma =>
          obtain rfl := Option.some.inj ho
          obtain rfl := Option.some.inj hs
          have e15 : a.tmps.getD 15 undef = .bool false := hdep 8 _ _ _ rfl rfl rfl (by kernel_rfl)
          exact wpOp_skipped rfl (by simp [Region.wanted, yielded, got_some e15 (by omega)]) ⟨_, rfl, rfl, Below.refl _ _⟩
        · as_aux_lemma =>
          obtain rfl := Option.some.inj ho
          obtain rfl := Option.some.inj hs
          have e15 : a.tmps.getD 15 undef = .bool false := hdep 8 _ _ _ rfl rfl rfl (by kernel_rfl)
          exact wpOp_skipped rfl (by simp [Region.wanted, yielded, got_some e15 (by omega)]) ⟨_, rfl, rfl, Below.refl _ _⟩
        · as_aux_lemma =>
          obtain rfl := Option.some.inj ho
          obtain rfl := Option.some.inj hs
          have e15 : a.tmps.getD 15 undef = .bool false := hdep 8 _ _ _ rfl rfl rfl (by kernel_rfl)
          exact wpOp_skipped rfl (by simp [Region.wanted, yielded, got_some e15 (by omega)]) ⟨_, rfl, rfl, Below.refl _ _⟩
        · as_aux_lemma =>
          obtain rfl := Option.some.inj ho
          obtain rfl := Option.some.inj hs
          have e15 : a.tmps.getD 15 undef = .bool false := hdep 8 _ _ _ rfl rfl rfl (by kernel_rfl)
          exact wpOp_skipped rfl (by simp [Region.wanted, yielded, got_some e15 (by omega)]) ⟨_, rfl, rfl, Below.refl _ _⟩
        · as_aux_lemma =>
          obtain rfl := Option.some.inj ho
          obtain rfl := Option.some.inj hs
          have e15 : a.tmps.getD 15 undef = .bool false := hdep 8 _ _ _ rfl rfl rfl (by kernel_rfl)
          exact wpOp_skipped rfl (by simp [Region.wanted, yielded, got_some e15 (by omega)]) ⟨_, rfl, rfl, Below.refl _ _⟩
        · as_aux_lemma =>
          obtain rfl := Option.some.inj ho
          obtain rfl := Option.some.inj hs
          have e15 : a.tmps.getD 15 undef = .bool false := hdep 8 _ _ _ rfl rfl rfl (by kernel_rfl)
          have e22 : a.tmps.getD 22 undef = undef := hdep 15 _ _ _ rfl rfl rfl (by kernel_rfl)
          exact wpOp_plain rfl rfl (u := .bool false) (fun ρ hc hf ht => by have f15 := (ht 15).trans e15; have f22 := (ht 22).trans e22; clear ht; simp [go_sem, *]) ⟨_, rfl, rfl, Below.refl _ _⟩
        · as_aux_lemma =>
          obtain rfl := Option.some.inj ho
          obtain rfl := Option.some.inj hs
          have e23 : a.tmps.getD 23 undef = .bool false := hdep 16 _ _ _ rfl rfl rfl (by kernel_rfl)
          exact wpOp_plain rfl rfl (u := .bool false) (fun ρ hc hf ht => by have f23 := (ht 23).trans e23; clear ht; simp [go_sem, *]) ⟨_, rfl, rfl, Below.refl _ _⟩
      · intro a w2 hall hdef hbe
        have er : a.tmps.getD 6 undef = .bool false := hall 17 _ _ _ rfl rfl rfl
        rename_i Q9 K9 hK9
        refine hK9 _ _ (wp_ret ?_)
        refine bodyPost_ret (results_tmp (t := 6) rfl a.tmps _ w2) hdef ?_
        rw [er]
        exact ⟨rfl, belowOn HB.out HB.out.size hbe⟩
  · cases cy
    · as_aux_lemma =>
      go_enter Tryd.func32, Tryd.ntmps32
      go_upto_region 1 with fail
      generalize (w.alloc (.cells CX 49)).alloc (.cells CY 49) = W at HK1 HK2 HB hsz ⊢
      refine wp_region_RI [.is (.pointer (some ⟨w.heap.size, 0, none⟩)), .is (.bool true), .is (.bool false), .is (.bool false), .is (undef), .is (undef), .is (undef), .is (.bool false), .is (.bool false), .is (undef), .is (undef), .is (undef), .is (undef), .is (undef), .is (undef), .is (undef), .is (.bool false), .is (.bool false)] (by kernel_rfl) (by kernel_rfl) (by kernel_rfl) ?_ ?_
      · intro i o sp ho hs a w2 hbe htz hkept hdep
        have hi : i < 18 := (Array.getElem?_eq_some_iff.1 ho).1
        have hsz : a.tmps.size = 24 := htz
        have HBW := Lib.hid (belowOn HB.out HB.out.size hbe)
        have K1 := Lib.hid (HK1.out.keep hbe)
        have K2 := Lib.hid (HK2.out.keep hbe)
        have x0 := (K1.out.cell 0).trans HZ.out
        have y0 := (K2.out.cell 0).trans HZ1.out
        have lt1 := K1.out.lt
        have lt2 := K2.out.lt
        have hb0 : a.tmps.getD 0 undef = .pointer (some ⟨t, 0, none⟩) := hkept 0 (noDst_spec (by kernel_rfl))
        have hb4 : a.tmps.getD 4 undef = .pointer (some ⟨w.heap.size, 0, none⟩) := hkept 4 (noDst_spec (by kernel_rfl))
        have hb5 : a.tmps.getD 5 undef = .pointer (some ⟨(w.heap.size + 1), 0, none⟩) := hkept 5 (noDst_spec (by kernel_rfl))
        rcases (by omega : i = 0 ∨ i = 1 ∨ i = 2 ∨ i = 3 ∨ i = 4 ∨ i = 5 ∨ i = 6 ∨ i = 7 ∨ i = 8 ∨ i = 9 ∨ i = 10 ∨ i = 11 ∨ i = 12 ∨ i = 13 ∨ i = 14 ∨ i = 15 ∨ i = 16 ∨ i = 17) with rfl | rfl | rfl | rfl | rfl | rfl | rfl | rfl | rfl | rfl | rfl | rfl | rfl | rfl | rfl | rfl | rfl | rfl
        · as_aux_lemma =>
          obtain rfl := Option.some.inj ho
          obtain rfl := Option.some.inj hs
          have e4 : a.tmps.getD 4 undef = .pointer (some ⟨w.heap.size, 0, none⟩) := hb4
          exact wpOp_plain rfl rfl (u := .pointer (some ⟨w.heap.size, 0, none⟩)) (fun ρ hc hf ht => by have f4 := (ht 4).trans e4; clear ht; simp [go_sem, *]) ⟨_, rfl, rfl, Below.refl _ _⟩
        · as_aux_lemma =>
          obtain rfl := Option.some.inj ho
          obtain rfl := Option.some.inj hs
          have e7 : a.tmps.getD 7 undef = .pointer (some ⟨w.heap.size, 0, none⟩) := hdep 0 _ _ _ rfl rfl rfl (by kernel_rfl)
          exact wpOp_plain rfl rfl (u := .bool true) (fun ρ hc hf ht => by have f7 := (ht 7).trans e7; clear ht; have q0 := x0; simp [go_sem, *]) ⟨_, rfl, rfl, Below.refl _ _⟩
        · as_aux_lemma =>
          obtain rfl := Option.some.inj ho
          obtain rfl := Option.some.inj hs
          have e8 : a.tmps.getD 8 undef = .bool true := hdep 1 _ _ _ rfl rfl rfl (by kernel_rfl)
          exact wpOp_plain rfl rfl (u := .bool false) (fun ρ hc hf ht => by have f8 := (ht 8).trans e8; clear ht; simp [go_sem, *]) ⟨_, rfl, rfl, Below.refl _ _⟩
        · as_aux_lemma =>
          obtain rfl := Option.some.inj ho
          obtain rfl := Option.some.inj hs
          have e9 : a.tmps.getD 9 undef = .bool false := hdep 2 _ _ _ rfl rfl rfl (by kernel_rfl)
          exact wpOp_plain rfl rfl (u := .bool false) (fun ρ hc hf ht => by have f9 := (ht 9).trans e9; clear ht; simp [go_sem, *]) ⟨_, rfl, rfl, Below.refl _ _⟩
        · as_aux_lemma =>
          obtain rfl := Option.some.inj ho
          obtain rfl := Option.some.inj hs
          have e10 : a.tmps.getD 10 undef = .bool false := hdep 3 _ _ _ rfl rfl rfl (by kernel_rfl)
          exact wpOp_skipped rfl (by simp [Region.wanted, yielded, got_some e10 (by omega)]) ⟨_, rfl, rfl, Below.refl _ _⟩
        · as_aux_lemma =>
          obtain rfl := Option.some.inj ho
          obtain rfl := Option.some.inj hs
          have e10 : a.tmps.getD 10 undef = .bool false := hdep 3 _ _ _ rfl rfl rfl (by kernel_rfl)
          exact wpOp_skipped rfl (by simp [Region.wanted, yielded, got_some e10 (by omega)]) ⟨_, rfl, rfl, Below.refl _ _⟩
        · as_aux_lemma =>
          obtain rfl := Option.some.inj ho
          obtain rfl := Option.some.inj hs
          have e10 : a.tmps.getD 10 undef = .bool false := hdep 3 _ _ _ rfl rfl rfl (by kernel_rfl)
          exact wpOp_skipped rfl (by simp [Region.wanted, yielded, got_some e10 (by omega)]) ⟨_, rfl, rfl, Below.refl _ _⟩
        · as_aux_lemma =>
          obtain rfl := Option.some.inj ho
          obtain rfl := Option.some.inj hs
          have e10 : a.tmps.getD 10 undef = .bool false := hdep 3 _ _ _ rfl rfl rfl (by kernel_rfl)
          have e13 : a.tmps.getD 13 undef = undef := hdep 6 _ _ _ rfl rfl rfl (by kernel_rfl)
          exact wpOp_plain rfl rfl (u := .bool false) (fun ρ hc hf ht => by have f10 := (ht 10).trans e10; have f13 := (ht 13).trans e13; clear ht; simp [go_sem, *]) ⟨_, rfl, rfl, Below.refl _ _⟩
        · as_aux_lemma =>
          obtain rfl := Option.some.inj ho
          obtain rfl := Option.some.inj hs
          have e14 : a.tmps.getD 14 undef = .bool false := hdep 7 _ _ _ rfl rfl rfl (by kernel_rfl)
          exact wpOp_plain rfl rfl (u := .bool false) (fun ρ hc hf ht => by have f14 := (ht 14).trans e14; clear ht; simp [go_sem, *]) ⟨_, rfl, rfl, Below.refl _ _⟩
        · as_aux_lemma =>
          obtain rfl := Option.some.inj ho
          obtain rfl := Option.some.inj hs
          have e15 : a.tmps.getD 15 undef = .bool false := hdep 8 _ _ _ rfl rfl rfl (by kernel_rfl)
          exact wpOp_skipped rfl (by simp [Region.wanted, yielded, got_some e15 (by omega)]) ⟨_, rfl, rfl, Below.refl _ _⟩
        · as_aux_lemma =>
          obtain rfl := Option.some.inj ho
          obtain rfl := Option.some.inj hs
          have e15 : a.tmps.getD 15 undef = .bool false := hdep 8 _ _ _ rfl rfl rfl (by kernel_rfl)
          exact wpOp_skipped rfl (by simp [Region.wanted, yielded, got_some e15 (by omega)]) ⟨_, rfl, rfl, Below.refl _ _⟩
        · as_aux_lemma =>
          obtain rfl := Option.some.inj ho
          obtain rfl := Option.some.inj hs
          have e15 : a.tmps.getD 15 undef = .bool false := hdep 8 _ _ _ rfl rfl rfl (by kernel_rfl)
          exact wpOp_skipped rfl (by simp [Region.wanted, yielded, got_some e15 (by omega)]) ⟨_, rfl, rfl, Below.refl _ _⟩
        · as_aux_lemma =>
          obtain rfl := Option.some.inj ho
          obtain rfl := Option.some.inj hs
          have e15 : a.tmps.getD 15 undef = .bool false := hdep 8 _ _ _ rfl rfl rfl (by kernel_rfl)
          exact wpOp_skipped rfl (by simp [Region.wanted, yielded, got_some e15 (by omega)]) ⟨_, rfl, rfl, Below.refl _ _⟩
        · as_aux_lemma =>
          obtain rfl := Option.some.inj ho
          obtain rfl := Option.some.inj hs
          have e15 : a.tmps.getD 15 undef = .bool false := hdep 8 _ _ _ rfl rfl rfl (by kernel_rfl)
          exact wpOp_skipped rfl (by simp [Region.wanted, yielded, got_some e15 (by omega)]) ⟨_, rfl, rfl, Below.refl _ _⟩
        · as_aux_lemma =>
          obtain rfl := Option.some.inj ho
          obtain rfl := Option.some.inj hs
          have e15 : a.tmps.getD 15 undef = .bool false := hdep 8 _ _ _ rfl rfl rfl (by kernel_rfl)
          exact wpOp_skipped rfl (by simp [Region.wanted, yielded, got_some e15 (by omega)]) ⟨_, rfl, rfl, Below.refl _ _⟩
        · as_aux_lemma =>
          obtain rfl := Option.some.inj ho
          obtain rfl := Option.some.inj hs
          have e15 : a.tmps.getD 15 undef = .bool false := hdep 8 _ _ _ rfl rfl rfl (by kernel_rfl)
          exact wpOp_skipped rfl (by simp [Region.wanted, yielded, got_some e15 (by omega)]) ⟨_, rfl, rfl, Below.refl _ _⟩
        · as_aux_lemma =>
          obtain rfl := Option.some.inj ho
          obtain rfl := Option.some.inj hs
          have e15 : a.tmps.getD 15 undef = .bool false := hdep 8 _ _ _ rfl rfl rfl (by kernel_rfl)
          have e22 : a.tmps.getD 22 undef = undef := hdep 15 _ _ _ rfl rfl rfl (by kernel_rfl)
          exact wpOp_plain rfl rfl (u := .bool false) (fun ρ hc hf ht => by have f15 := (ht 15).trans e15; have f22 := (ht 22).trans e22; clear ht; simp [go_sem, *]) ⟨_, rfl, rfl, Below.refl _ _⟩
        · as_aux_lemma =>
          obtain rfl := Option.some.inj ho
          obtain rfl := Option.some.inj hs
          have e23 : a.tmps.getD 23 undef = .bool false := hdep 16 _ _ _ rfl rfl rfl (by kernel_rfl)
          exact wpOp_plain rfl rfl (u := .bool false) (fun ρ hc hf ht => by have f23 := (ht 23).trans e23; clear ht; simp [go_sem, *]) ⟨_, rfl, rfl, Below.refl _ _⟩
      · intro a w2 hall hdef hbe
        have er : a.tmps.getD 6 undef = .bool false := hall 17 _ _ _ rfl rfl rfl
        rename_i Q9 K9 hK9
        refine hK9 _ _ (wp_ret ?_)
        refine bodyPost_ret (results_tmp (t := 6) rfl a.tmps _ w2) hdef ?_
        rw [er]
        exact ⟨rfl, belowOn HB.out HB.out.size hbe⟩
    · as_aux_lemma =>
      go_enter Tryd.func32, Tryd.ntmps32
      go_upto_region 1 with fail
      generalize (w.alloc (.cells CX 49)).alloc (.cells CY 49) = W at HK1 HK2 HB hsz ⊢
      refine wp_region_RI [.is (.pointer (some ⟨w.heap.size, 0, none⟩)), .is (.bool true), .is (.bool false), .is (.bool false), .is (undef), .is (undef), .is (undef), .is (.bool false), .is (.bool false), .is (undef), .is (undef), .is (undef), .is (undef), .is (undef), .is (undef), .is (undef), .is (.bool false), .is (.bool false)] (by kernel_rfl) (by kernel_rfl) (by kernel_rfl) ?_ ?_
      · intro i o sp ho hs a w2 hbe htz hkept hdep
        have hi : i < 18 := (Array.getElem?_eq_some_iff.1 ho).1
        have hsz : a.tmps.size = 24 := htz
        have HBW := Lib.hid (belowOn HB.out HB.out.size hbe)
        have K1 := Lib.hid (HK1.out.keep hbe)
        have K2 := Lib.hid (HK2.out.keep hbe)
        have x0 := (K1.out.cell 0).trans HZ.out
        have y0 := (K2.out.cell 0).trans HZ1.out
        have lt1 := K1.out.lt
        have lt2 := K2.out.lt
        have hb0 : a.tmps.getD 0 undef = .pointer (some ⟨t, 0, none⟩) := hkept 0 (noDst_spec (by kernel_rfl))
        have hb4 : a.tmps.getD 4 undef = .pointer (some ⟨w.heap.size, 0, none⟩) := hkept 4 (noDst_spec (by kernel_rfl))
        have hb5 : a.tmps.getD 5 undef = .pointer (some ⟨(w.heap.size + 1), 0, none⟩) := hkept 5 (noDst_spec (by kernel_rfl))
        rcases (by omega : i = 0 ∨ i = 1 ∨ i = 2 ∨ i = 3 ∨ i = 4 ∨ i = 5 ∨ i = 6 ∨ i = 7 ∨ i = 8 ∨ i = 9 ∨ i = 10 ∨ i = 11 ∨ i = 12 ∨ i = 13 ∨ i = 14 ∨ i = 15 ∨ i = 16 ∨ i = 17) with rfl | rfl | rfl | rfl | rfl | rfl | rfl | rfl | rfl | rfl | rfl | rfl | rfl | rfl | rfl | rfl | rfl | rfl
        · as_aux_lemma =>
          obtain rfl := Option.some.inj ho
          obtain rfl := Option.some.inj hs
          have e4 : a.tmps.getD 4 undef = .pointer (some ⟨w.heap.size, 0, none⟩) := hb4
          exact wpOp_plain rfl rfl (u := .pointer (some ⟨w.heap.size, 0, none⟩)) (fun ρ hc hf ht => by have f4 := (ht 4).trans e4; clear ht; simp [go_sem, *]) ⟨_, rfl, rfl, Below.refl _ _⟩
        · as_aux_lemma =>
          obtain rfl := Option.some.inj ho
          obtain rfl := Option.some.inj hs
          have e7 : a.tmps.getD 7 undef = .pointer (some ⟨w.heap.size, 0, none⟩) := hdep 0 _ _ _ rfl rfl rfl (by kernel_rfl)
          exact wpOp_plain rfl rfl (u := .bool true) (fun ρ hc hf ht => by have f7 := (ht 7).trans e7; clear ht; have q0 := x0; simp [go_sem, *]) ⟨_, rfl, rfl, Below.refl _ _⟩
        · as_aux_lemma =>
          obtain rfl := Option.some.inj ho
          obtain rfl := Option.some.inj hs
          have e8 : a.tmps.getD 8 undef = .bool true := hdep 1 _ _ _ rfl rfl rfl (by kernel_rfl)
          exact wpOp_plain rfl rfl (u := .bool false) (fun ρ hc hf ht => by have f8 := (ht 8).trans e8; clear ht; simp [go_sem, *]) ⟨_, rfl, rfl, Below.refl _ _⟩
        · as_aux_lemma =>
          obtain rfl := Option.some.inj ho
          obtain rfl := Option.some.inj hs
          have e9 : a.tmps.getD 9 undef = .bool false := hdep 2 _ _ _ rfl rfl rfl (by kernel_rfl)
          exact wpOp_plain rfl rfl (u := .bool false) (fun ρ hc hf ht => by have f9 := (ht 9).trans e9; clear ht; simp [go_sem, *]) ⟨_, rfl, rfl, Below.refl _ _⟩
        · as_aux_lemma =>
          obtain rfl := Option.some.inj ho
          obtain rfl := Option.some.inj hs
          have e10 : a.tmps.getD 10 undef = .bool false := hdep 3 _ _ _ rfl rfl rfl (by kernel_rfl)
          exact wpOp_skipped rfl (by simp [Region.wanted, yielded, got_some e10 (by omega)]) ⟨_, rfl, rfl, Below.refl _ _⟩
        · as_aux_lemma =>
          obtain rfl := Option.some.inj ho
          obtain rfl := Option.some.inj hs
          have e10 : a.tmps.getD 10 undef = .bool false := hdep 3 _ _ _ rfl rfl rfl (by kernel_rfl)
          exact wpOp_skipped rfl (by simp [Region.wanted, yielded, got_some e10 (by omega)]) ⟨_, rfl, rfl, Below.refl _ _⟩
        · as_aux_lemma =>
          obtain rfl := Option.some.inj ho
          obtain rfl := Option.some.inj hs
          have e10 : a.tmps.getD 10 undef = .bool false := hdep 3 _ _ _ rfl rfl rfl (by kernel_rfl)
          exact wpOp_skipped rfl (by simp [Region.wanted, yielded, got_some e10 (by omega)]) ⟨_, rfl, rfl, Below.refl _ _⟩
        · as_aux_lemma =>
          obtain rfl := Option.some.inj ho
          obtain rfl := Option.some.inj hs
          have e10 : a.tmps.getD 10 undef = .bool false := hdep 3 _ _ _ rfl rfl rfl (by kernel_rfl)
          have e13 : a.tmps.getD 13 undef = undef := hdep 6 _ _ _ rfl rfl rfl (by kernel_rfl)
          exact wpOp_plain rfl rfl (u := .bool false) (fun ρ hc hf ht => by have f10 := (ht 10).trans e10; have f13 := (ht 13).trans e13; clear ht; simp [go_sem, *]) ⟨_, rfl, rfl, Below.refl _ _⟩
        · as_aux_lemma =>
          obtain rfl := Option.some.inj ho
          obtain rfl := Option.some.inj hs
          have e14 : a.tmps.getD 14 undef = .bool false := hdep 7 _ _ _ rfl rfl rfl (by kernel_rfl)
          exact wpOp_plain rfl rfl (u := .bool false) (fun ρ hc hf ht => by have f14 := (ht 14).trans e14; clear ht; simp [go_sem, *]) ⟨_, rfl, rfl, Below.refl _ _⟩
        · as_aux_lemma =>
          obtain rfl := Option.some.inj ho
          obtain rfl := Option.some.inj hs
          have e15 : a.tmps.getD 15 undef = .bool false := hdep 8 _ _ _ rfl rfl rfl (by kernel_rfl)
          exact wpOp_skipped rfl (by simp [Region.wanted, yielded, got_some e15 (by omega)]) ⟨_, rfl, rfl, Below.refl _ _⟩
        · as_aux_lemma =>
          obtain rfl := Option.some.inj ho
          obtain rfl := Option.some.inj hs
          have e15 : a.tmps.getD 15 undef = .bool false := hdep 8 _ _ _ rfl rfl rfl (by kernel_rfl)
          exact wpOp_skipped rfl (by simp [Region.wanted, yielded, got_some e15 (by omega)]) ⟨_, rfl, rfl, Below.refl _ _⟩
        · as_aux_lemma =>
          obtain rfl := Option.some.inj ho
          obtain rfl := Option.some.inj hs
          have e15 : a.tmps.getD 15 undef = .bool false := hdep 8 _ _ _ rfl rfl rfl (by kernel_rfl)
          exact wpOp_skipped rfl (by simp [Region.wanted, yielded, got_some e15 (by omega)]) ⟨_, rfl, rfl, Below.refl _ _⟩
        · as_aux_lemma =>
          obtain rfl := Option.some.inj ho
          obtain rfl := Option.some.inj hs
          have e15 : a.tmps.getD 15 undef = .bool false := hdep 8 _ _ _ rfl rfl rfl (by kernel_rfl)
          exact wpOp_skipped rfl (by simp [Region.wanted, yielded, got_some e15 (by omega)]) ⟨_, rfl, rfl, Below.refl _ _⟩
        · as_aux_lemma =>
          obtain rfl := Option.some.inj ho
          obtain rfl := Option.some.inj hs
          have e15 : a.tmps.getD 15 undef = .bool false := hdep 8 _ _ _ rfl rfl rfl (by kernel_rfl)
          exact wpOp_skipped rfl (by simp [Region.wanted, yielded, got_some e15 (by omega)]) ⟨_, rfl, rfl, Below.refl _ _⟩
        · as_aux_lemma =>
          obtain rfl := Option.some.inj ho
          obtain rfl := Option.some.inj hs
          have e15 : a.tmps.getD 15 undef = .bool false := hdep 8 _ _ _ rfl rfl rfl (by kernel_rfl)
          exact wpOp_skipped rfl (by simp [Region.wanted, yielded, got_some e15 (by omega)]) ⟨_, rfl, rfl, Below.refl _ _⟩
        · as_aux_lemma =>
          obtain rfl := Option.some.inj ho
          obtain rfl := Option.some.inj hs
          have e15 : a.tmps.getD 15 undef = .bool false := hdep 8 _ _ _ rfl rfl rfl (by kernel_rfl)
          exact wpOp_skipped rfl (by simp [Region.wanted, yielded, got_some e15 (by omega)]) ⟨_, rfl, rfl, Below.refl _ _⟩
        · as_aux_lemma =>
          obtain rfl := Option.some.inj ho
          obtain rfl := Option.some.inj hs
          have e15 : a.tmps.getD 15 undef = .bool false := hdep 8 _ _ _ rfl rfl rfl (by kernel_rfl)
          have e22 : a.tmps.getD 22 undef = undef := hdep 15 _ _ _ rfl rfl rfl (by kernel_rfl)
          exact wpOp_plain rfl rfl (u := .bool false) (fun ρ hc hf ht => by have f15 := (ht 15).trans e15; have f22 := (ht 22).trans e22; clear ht; simp [go_sem, *]) ⟨_, rfl, rfl, Below.refl _ _⟩
        · as_aux_lemma =>
          obtain rfl := Option.some.inj ho
          obtain rfl := Option.some.inj hs
          have e23 : a.tmps.getD 23 undef = .bool false := hdep 16 _ _ _ rfl rfl rfl (by kernel_rfl)
          exact wpOp_plain rfl rfl (u := .bool false) (fun ρ hc hf ht => by have f23 := (ht 23).trans e23; clear ht; simp [go_sem, *]) ⟨_, rfl, rfl, Below.refl _ _⟩
      · intro a w2 hall hdef hbe
        have er : a.tmps.getD 6 undef = .bool false := hall 17 _ _ _ rfl rfl rfl
        rename_i Q9 K9 hK9
        refine hK9 _ _ (wp_ret ?_)
        refine bodyPost_ret (results_tmp (t := 6) rfl a.tmps _ w2) hdef ?_
        rw [er]
        exact ⟨rfl, belowOn HB.out HB.out.size hbe⟩
end Go.Proofs.YtgljkgkmbfhgiaaDoor
