/- SiteOf, walked. -/
import Derived.Test.YtgljkgkmbfhgiaaDoorSiteAwake
set_option linter.unusedVariables false
set_option linter.unusedSimpArgs false
set_option maxRecDepth 100000
namespace Go.Proofs.YtgljkgkmbfhgiaaDoor
open Go.RowKit Four Six Rec

set_option maxHeartbeats 16000000 in
theorem of_law {w : World} (hF : FW w) (A : Option Addr) (c : Nat) (l : List RulV) (hr : RowAt RulV.cells 2 w A l) (hok : ∀ x ∈ l, x.ok w) (hlc : l.length ≤ c) (hcm : c ≤ maxLen) (x y : OrgV) (hx : x.h.ok) (hy : y.h.ok) :
    Calls Tryd.prog 9 #[.slice A l.length c, .agg x.cells.toArray, .agg y.cells.toArray] w fun e w' => e = .returned (.bool true) ∧ Below w.heap.size w w' := by
  have HAW := Lib.hid (fun (W : World) (hb : Below w.heap.size w W) => awake_calls (hF.keep hb))
  have HF := Lib.hid (fun (W : World) (hb : Below w.heap.size w W) => hF.keep hb)
  have F1 := Lib.hid (fun (W : World) (hb : Below w.heap.size w W) => few_rules A c l W (hr.keep hb) (fun x hx => (hok x hx).keep hb) hlc hcm)
  have HN := Lib.hid (fun (W : World) (hb : Below w.heap.size w W) => new_calls A c l W 1 (hr.keep hb) (fun x hx => (hok x hx).keep hb) hlc hcm)
  have HROW := Lib.hid hr
  have HOK := Lib.hid hok
  clear hF hr hok
  obtain ⟨C, hC⟩ : ∃ C, C = x.cells.toArray := ⟨_, rfl⟩
  have C0 := Lib.hid (show C[0]? = some (.bool x.opq) by rw [hC, orgc]; rfl)
  have C1 := Lib.hid (show C[1]? = some (.string x.scheme) by rw [hC, orgc]; rfl)
  have C3 := Lib.hid (show C[3]? = some (.string x.h.name) by rw [hC, orgc]; rfl)
  have CS := Lib.hid (show C.size = 14 by rw [hC]; rfl)
  have CC := Lib.hid hC
  obtain ⟨D, hD⟩ : ∃ D, D = y.cells.toArray := ⟨_, rfl⟩
  have D0 := Lib.hid (show D[0]? = some (.bool y.opq) by rw [hD, orgc]; rfl)
  have D1 := Lib.hid (show D[1]? = some (.string y.scheme) by rw [hD, orgc]; rfl)
  have D3 := Lib.hid (show D[3]? = some (.string y.h.name) by rw [hD, orgc]; rfl)
  have DS := Lib.hid (show D.size = 14 by rw [hD]; rfl)
  have DD := Lib.hid hD
  obtain ⟨W, hW⟩ : ∃ W, W = (w.alloc (.cells C 49)).alloc (.cells D 49) := ⟨_, rfl⟩
  have BW := Lib.hid (show Below w.heap.size w W by rw [hW]; exact ((Below.refl w.heap.size w).alloc (Nat.le_refl _) _).alloc (by simp) _)
  have KW := Lib.hid (show Blk W w.heap.size 49 C by rw [hW]; exact (Blk.new w 49 C).alloc _)
  have JW := Lib.hid (show Blk W (w.heap.size + 1) 49 D by rw [hW]; have := Blk.new (w.alloc (.cells C 49)) 49 D; simpa using this)
  have HW := Lib.hid hW
  have HX := Lib.hid hx
  have HY := Lib.hid hy
  rw [← hC, ← hD]
  clear hW hx hy hC hD
  cases hf1 : fewR l
  · go_enter Tryd.func9, Tryd.ntmps9
    go_wp2_with fail
    rw [← HW.out]
    refine (HAW.out W BW.out).mono ?_
    rintro e u1 ⟨rfl, hb⟩
    have Ku1 := Lib.hid (KW.out.keep hb)
    have Ju1 := Lib.hid (JW.out.keep hb)
    have Bu1 := Lib.hid (belowOn BW.out BW.out.size hb)
    clear hb BW KW JW
    go_wp2_with fail
    refine (F1.out u1 Bu1.out).mono ?_
    rw [hf1]
    rintro e w9 ⟨rfl, rfl⟩
    go_wp2_with fail
    go_ret
    exact ⟨rfl, Bu1.out⟩
  · by_cases n0 : x.h.name.size ≤ 100
    · by_cases n1 : y.h.name.size ≤ 100
      · by_cases n2 : x.scheme.size ≤ 100
        · by_cases n3 : y.scheme.size ≤ 100
          · obtain ⟨bx, hbx⟩ : ∃ b, b = x.opq := ⟨_, rfl⟩
            obtain ⟨cy, hcy⟩ : ∃ b, b = y.opq := ⟨_, rfl⟩
            obtain ⟨q, hq⟩ : ∃ b, b = decide (siteT (l.map (·.r)) x = siteT (l.map (·.r)) y) := ⟨_, rfl⟩
            have hs1 : sameT (l.map (·.r)) x y = (!bx && (!cy && q)) := by unfold sameT; rw [hbx, hcy, hq]
            have hs2 : sameT (l.map (·.r)) x x = !bx := by unfold sameT; rw [← hbx]; simp
            have hcmp := mkB_beq (siteT (l.map (·.r)) x) (siteT (l.map (·.r)) y)
            rw [← hq] at hcmp
            rw [← hbx] at C0
            rw [← hcy] at D0
            have HS1 := Lib.hid hs1
            have HS2 := Lib.hid hs2
            have HCM := Lib.hid hcmp
            clear hbx hcy hq hs1 hs2 hcmp
            cases bx with
            | true =>
              cases cy with
              | true =>
                as_aux_lemma =>
                  go_enter Tryd.func9, Tryd.ntmps9
                  go_wp2_with fail
                  rw [← HW.out]
                  refine (HAW.out W BW.out).mono ?_
                  rintro e u1 ⟨rfl, hb⟩
                  have Ku1 := Lib.hid (KW.out.keep hb)
                  have Ju1 := Lib.hid (JW.out.keep hb)
                  have Bu1 := Lib.hid (belowOn BW.out BW.out.size hb)
                  clear hb BW KW JW
                  go_wp2_with fail
                  refine (F1.out u1 Bu1.out).mono ?_
                  rw [hf1]
                  rintro e w9 ⟨rfl, rfl⟩
                  have z1 := (Ku1.out.cell 3).trans C3.out
                  have lt1 := Ku1.out.lt
                  go_wp2_with fail
                  refine (few17_calls x.h.name u1).mono ?_
                  rintro e u2 ⟨rfl, hb⟩
                  have Ku2 := Lib.hid (Ku1.out.keep hb)
                  have Ju2 := Lib.hid (Ju1.out.keep hb)
                  have Bu2 := Lib.hid (belowOn Bu1.out Bu1.out.size hb)
                  clear hb Bu1 Ku1 Ju1
                  clear z1 lt1
                  rw [decide_eq_true n0]
                  have z1 := (Ju2.out.cell 3).trans D3.out
                  have lt1 := Ju2.out.lt
                  go_wp2_with fail
                  refine (few17_calls y.h.name u2).mono ?_
                  rintro e u3 ⟨rfl, hb⟩
                  have Ku3 := Lib.hid (Ku2.out.keep hb)
                  have Ju3 := Lib.hid (Ju2.out.keep hb)
                  have Bu3 := Lib.hid (belowOn Bu2.out Bu2.out.size hb)
                  clear hb Bu2 Ku2 Ju2
                  clear z1 lt1
                  rw [decide_eq_true n1]
                  have z1 := (Ku3.out.cell 1).trans C1.out
                  have lt1 := Ku3.out.lt
                  go_wp2_with fail
                  refine (few17_calls x.scheme u3).mono ?_
                  rintro e u4 ⟨rfl, hb⟩
                  have Ku4 := Lib.hid (Ku3.out.keep hb)
                  have Ju4 := Lib.hid (Ju3.out.keep hb)
                  have Bu4 := Lib.hid (belowOn Bu3.out Bu3.out.size hb)
                  clear hb Bu3 Ku3 Ju3
                  clear z1 lt1
                  rw [decide_eq_true n2]
                  have z1 := (Ju4.out.cell 1).trans D1.out
                  have lt1 := Ju4.out.lt
                  go_wp2_with fail
                  refine (few17_calls y.scheme u4).mono ?_
                  rintro e u5 ⟨rfl, hb⟩
                  have Ku5 := Lib.hid (Ku4.out.keep hb)
                  have Ju5 := Lib.hid (Ju4.out.keep hb)
                  have Bu5 := Lib.hid (belowOn Bu4.out Bu4.out.size hb)
                  clear hb Bu4 Ku4 Ju4
                  clear z1 lt1
                  rw [decide_eq_true n3]
                  go_wp2_with fail
                  refine (HN.out u5 Bu5.out).mono ?_
                  rintro e u6 ⟨⟨t, a, rfl, ht⟩, hb⟩
                  have Ku6 := Lib.hid (Ku5.out.keep hb)
                  have Ju6 := Lib.hid (Ju5.out.keep hb)
                  have Bu6 := Lib.hid (belowOn Bu5.out Bu5.out.size hb)
                  have Tu6 := Lib.hid ht
                  clear ht
                  clear hb Bu5 Ku5 Ju5
                  have q1 := refof17_calls A c l u6 (HROW.out.keep Bu6.out) (fun x hx => (HOK.out x hx).keep Bu6.out) hlc hcm x HX.out (by omega) (by omega)
                  rw [← CC.out] at q1
                  have R0 := Lib.hid q1
                  clear q1
                  go_wp2_with (with_reducible refine stopG ?_)
                  refine stopS_go ?_
                  refine load_org Ku6.out CS.out (.tmp 4) rfl rfl rfl ?_
                  go_wp2_with fail
                  refine (R0.out).mono ?_
                  rintro e u7 ⟨rfl, hb⟩
                  have Ku7 := Lib.hid (Ku6.out.keep hb)
                  have Ju7 := Lib.hid (Ju6.out.keep hb)
                  have Tu7 := Lib.hid (Tu6.out.keep hb)
                  have Bu7 := Lib.hid (belowOn Bu6.out Bu6.out.size hb)
                  clear hb Bu6 Ku6 Ju6 Tu6
                  have q1 := refof17_calls A c l u7 (HROW.out.keep Bu7.out) (fun x hx => (HOK.out x hx).keep Bu7.out) hlc hcm y HY.out (by omega) (by omega)
                  rw [← DD.out] at q1
                  have R1 := Lib.hid q1
                  clear q1
                  go_wp2_with (with_reducible refine stopG ?_)
                  refine stopS_go ?_
                  refine load_org Ju7.out DS.out (.tmp 5) rfl rfl rfl ?_
                  go_wp2_with fail
                  refine (R1.out).mono ?_
                  rintro e u8 ⟨rfl, hb⟩
                  have Ku8 := Lib.hid (Ku7.out.keep hb)
                  have Ju8 := Lib.hid (Ju7.out.keep hb)
                  have Tu8 := Lib.hid (Tu7.out.keep hb)
                  have Bu8 := Lib.hid (belowOn Bu7.out Bu7.out.size hb)
                  clear hb Bu7 Ku7 Ju7 Tu7
                  have o1 := fun (V : World) (hb : Below u8.heap.size u8 V) => of17_calls (Tu8.out.keep hb) (HF.out _ (belowOn Bu8.out Bu8.out.size hb)) x HX.out (by omega) (by omega)
                  have o2 := fun (V : World) (hb : Below u8.heap.size u8 V) => of17_calls (Tu8.out.keep hb) (HF.out _ (belowOn Bu8.out Bu8.out.size hb)) y HY.out (by omega) (by omega)
                  have o3 := fun (V : World) (hb : Below u8.heap.size u8 V) => same17_calls (Tu8.out.keep hb) (HF.out _ (belowOn Bu8.out Bu8.out.size hb)) x y HX.out HY.out (by omega) (by omega) (by omega) (by omega)
                  have o4 := fun (V : World) (hb : Below u8.heap.size u8 V) => same17_calls (Tu8.out.keep hb) (HF.out _ (belowOn Bu8.out Bu8.out.size hb)) x x HX.out HX.out (by omega) (by omega) (by omega) (by omega)
                  rw [← CC.out] at o1
                  rw [← DD.out] at o2
                  rw [HS1.out, ← CC.out, ← DD.out] at o3
                  rw [HS2.out, ← CC.out] at o4
                  have hcm := HCM.out
                  generalize mkB (siteT (l.map (·.r)) x) = SX at o1 hcm ⊢
                  generalize mkB (siteT (l.map (·.r)) y) = SY at o2 hcm ⊢
                  have O1 := Lib.hid o1
                  have O2 := Lib.hid o2
                  have O3 := Lib.hid o3
                  have O4 := Lib.hid o4
                  have HC := Lib.hid hcm
                  clear o1 o2 o3 o4 hcm
                  go_upto_region 7 with fail
                  clear HAW HF HN HROW HOK HW HX HY C1 C3 D1 D3 Tu8 R0 R1 HS1 HS2 HCM F1
                  refine wp_region_RI [.is (.bool true), .is (.bool true), .is (.pointer (some ⟨t, 0, none⟩)), .is (.agg C), .is (.string SX), .is (.string SX), .is (.bool true), .is (.bool true), .is (.bool true), .is (.pointer (some ⟨t, 0, none⟩)), .is (.agg D), .is (.string SY), .is (.string SY), .is (.bool true), .is (.bool true), .is (.bool true), .is (.pointer (some ⟨t, 0, none⟩)), .is (.agg C), .is (.agg D), .is (.bool false), .is (.pointer (some ⟨w.heap.size, 0, none⟩)), .is (.bool true), .is (.bool false), .is (.bool false), .is (undef), .is (undef), .is (undef), .is (.bool false), .is (.bool false), .is (undef), .is (undef), .is (undef), .is (.bool false), .is (.bool true), .is (.bool true), .is (.bool true), .is (.pointer (some ⟨t, 0, none⟩)), .is (.agg C), .is (.agg C), .is (.bool false), .is (.pointer (some ⟨w.heap.size, 0, none⟩)), .is (.bool true), .is (.bool false), .is (.bool true), .is (.bool true), .is (.bool true)] (by kernel_rfl) (by kernel_rfl) (by kernel_rfl) ?_ ?_
                  · intro i o sp ho hs a w2 hbe htz hkept hdep
                    have hi : i < 46 := (Array.getElem?_eq_some_iff.1 ho).1
                    have hsz : a.tmps.size = 95 := htz
                    have K2 := Lib.hid (Ku8.out.keep hbe)
                    have J2 := Lib.hid (Ju8.out.keep hbe)
                    have x0 := (K2.out.cell 0).trans C0.out
                    have y0 := (J2.out.cell 0).trans D0.out
                    have lt1 := K2.out.lt
                    have lt2 := J2.out.lt
                    have hb7 : a.tmps.getD 7 undef = .bool true := hkept 7 (noDst_spec (by kernel_rfl))
                    have hb8 : a.tmps.getD 8 undef = .pointer (some ⟨t, 0, none⟩) := hkept 8 (noDst_spec (by kernel_rfl))
                    have hb9 : a.tmps.getD 9 undef = .string SX := hkept 9 (noDst_spec (by kernel_rfl))
                    have hb10 : a.tmps.getD 10 undef = .string SY := hkept 10 (noDst_spec (by kernel_rfl))
                    have hb4 : a.tmps.getD 4 undef = .pointer (some ⟨w.heap.size, 0, none⟩) := hkept 4 (noDst_spec (by kernel_rfl))
                    have hb5 : a.tmps.getD 5 undef = .pointer (some ⟨(w.heap.size + 1), 0, none⟩) := hkept 5 (noDst_spec (by kernel_rfl))
                    rcases (by omega : i = 0 ∨ i = 1 ∨ i = 2 ∨ i = 3 ∨ i = 4 ∨ i = 5 ∨ i = 6 ∨ i = 7 ∨ i = 8 ∨ i = 9 ∨ i = 10 ∨ i = 11 ∨ i = 12 ∨ i = 13 ∨ i = 14 ∨ i = 15 ∨ i = 16 ∨ i = 17 ∨ i = 18 ∨ i = 19 ∨ i = 20 ∨ i = 21 ∨ i = 22 ∨ i = 23 ∨ i = 24 ∨ i = 25 ∨ i = 26 ∨ i = 27 ∨ i = 28 ∨ i = 29 ∨ i = 30 ∨ i = 31 ∨ i = 32 ∨ i = 33 ∨ i = 34 ∨ i = 35 ∨ i = 36 ∨ i = 37 ∨ i = 38 ∨ i = 39 ∨ i = 40 ∨ i = 41 ∨ i = 42 ∨ i = 43 ∨ i = 44 ∨ i = 45) with rfl | rfl | rfl | rfl | rfl | rfl | rfl | rfl | rfl | rfl | rfl | rfl | rfl | rfl | rfl | rfl | rfl | rfl | rfl | rfl | rfl | rfl | rfl | rfl | rfl | rfl | rfl | rfl | rfl | rfl | rfl | rfl | rfl | rfl | rfl | rfl | rfl | rfl | rfl | rfl | rfl | rfl | rfl | rfl | rfl | rfl
                    · as_aux_lemma =>
                      obtain rfl := Option.some.inj ho
                      obtain rfl := Option.some.inj hs
                      have e7 : a.tmps.getD 7 undef = .bool true := hb7
                      exact wpOp_plain rfl rfl (u := .bool true) (fun ρ hc hf ht => by have f7 := (ht 7).trans e7; clear ht; simp [go_sem, *]) ⟨_, rfl, rfl, Below.refl _ _⟩
                    · as_aux_lemma =>
                      obtain rfl := Option.some.inj ho
                      obtain rfl := Option.some.inj hs
                      have e50 : a.tmps.getD 50 undef = .bool true := hdep 0 _ _ _ rfl rfl rfl (by kernel_rfl)
                      exact wpOp_plain rfl rfl (u := .bool true) (fun ρ hc hf ht => by have f50 := (ht 50).trans e50; clear ht; simp [go_sem, *]) ⟨_, rfl, rfl, Below.refl _ _⟩
                    · as_aux_lemma =>
                      obtain rfl := Option.some.inj ho
                      obtain rfl := Option.some.inj hs
                      have e8 : a.tmps.getD 8 undef = .pointer (some ⟨t, 0, none⟩) := hb8
                      have e51 : a.tmps.getD 51 undef = .bool true := hdep 1 _ _ _ rfl rfl rfl (by kernel_rfl)
                      exact wpOp_plain rfl (by simp [Region.wanted, yielded, got_some e51 (by omega)]) (u := .pointer (some ⟨t, 0, none⟩)) (fun ρ hc hf ht => by have f8 := (ht 8).trans e8; clear ht; simp [go_sem, *]) ⟨_, rfl, rfl, Below.refl _ _⟩
                    · as_aux_lemma =>
                      obtain rfl := Option.some.inj ho
                      obtain rfl := Option.some.inj hs
                      have e4 : a.tmps.getD 4 undef = .pointer (some ⟨w.heap.size, 0, none⟩) := hb4
                      have e51 : a.tmps.getD 51 undef = .bool true := hdep 1 _ _ _ rfl rfl rfl (by kernel_rfl)
                      exact wpOp_plain rfl (by simp [Region.wanted, yielded, got_some e51 (by omega)]) (u := .agg C) (fun ρ hc hf ht => load_row _ rfl ((ht 4).trans e4) K2.out Tryd.underlying49 (by rw [CS.out]; exact info_org)) ⟨_, rfl, rfl, Below.refl _ _⟩
                    · as_aux_lemma =>
                      obtain rfl := Option.some.inj ho
                      obtain rfl := Option.some.inj hs
                      have e52 : a.tmps.getD 52 undef = .pointer (some ⟨t, 0, none⟩) := hdep 2 _ _ _ rfl rfl rfl (by kernel_rfl)
                      have e53 : a.tmps.getD 53 undef = .agg C := hdep 3 _ _ _ rfl rfl rfl (by kernel_rfl)
                      have e51 : a.tmps.getD 51 undef = .bool true := hdep 1 _ _ _ rfl rfl rfl (by kernel_rfl)
                      refine wpOp_calls (f := 31) (args := #[.pointer (some ⟨t, 0, none⟩), .agg C]) rfl (by simp [Region.wanted, yielded, got_some e51 (by omega)]) (fun ρ hc hf ht => by have f52 := (ht 52).trans e52; have f53 := (ht 53).trans e53; clear ht; simp [go_sem, *]) ?_
                      exact (O1.out w2 hbe).mono fun e w' h => ⟨_, h.1, _, rfl, rfl, h.2⟩
                    · as_aux_lemma =>
                      obtain rfl := Option.some.inj ho
                      obtain rfl := Option.some.inj hs
                      have e9 : a.tmps.getD 9 undef = .string SX := hb9
                      have e51 : a.tmps.getD 51 undef = .bool true := hdep 1 _ _ _ rfl rfl rfl (by kernel_rfl)
                      exact wpOp_plain rfl (by simp [Region.wanted, yielded, got_some e51 (by omega)]) (u := .string SX) (fun ρ hc hf ht => by have f9 := (ht 9).trans e9; clear ht; simp [go_sem, *]) ⟨_, rfl, rfl, Below.refl _ _⟩
                    · as_aux_lemma =>
                      obtain rfl := Option.some.inj ho
                      obtain rfl := Option.some.inj hs
                      have e54 : a.tmps.getD 54 undef = .string SX := hdep 4 _ _ _ rfl rfl rfl (by kernel_rfl)
                      have e55 : a.tmps.getD 55 undef = .string SX := hdep 5 _ _ _ rfl rfl rfl (by kernel_rfl)
                      have e51 : a.tmps.getD 51 undef = .bool true := hdep 1 _ _ _ rfl rfl rfl (by kernel_rfl)
                      exact wpOp_plain rfl (by simp [Region.wanted, yielded, got_some e51 (by omega)]) (u := .bool true) (fun ρ hc hf ht => by have f54 := (ht 54).trans e54; have f55 := (ht 55).trans e55; clear ht; simp [go_sem, *]) ⟨_, rfl, rfl, Below.refl _ _⟩
                    · as_aux_lemma =>
                      obtain rfl := Option.some.inj ho
                      obtain rfl := Option.some.inj hs
                      have e51 : a.tmps.getD 51 undef = .bool true := hdep 1 _ _ _ rfl rfl rfl (by kernel_rfl)
                      have e56 : a.tmps.getD 56 undef = .bool true := hdep 6 _ _ _ rfl rfl rfl (by kernel_rfl)
                      exact wpOp_plain rfl rfl (u := .bool true) (fun ρ hc hf ht => by have f51 := (ht 51).trans e51; have f56 := (ht 56).trans e56; clear ht; simp [go_sem, *]) ⟨_, rfl, rfl, Below.refl _ _⟩
                    · as_aux_lemma =>
                      obtain rfl := Option.some.inj ho
                      obtain rfl := Option.some.inj hs
                      have e57 : a.tmps.getD 57 undef = .bool true := hdep 7 _ _ _ rfl rfl rfl (by kernel_rfl)
                      exact wpOp_plain rfl rfl (u := .bool true) (fun ρ hc hf ht => by have f57 := (ht 57).trans e57; clear ht; simp [go_sem, *]) ⟨_, rfl, rfl, Below.refl _ _⟩
                    · as_aux_lemma =>
                      obtain rfl := Option.some.inj ho
                      obtain rfl := Option.some.inj hs
                      have e8 : a.tmps.getD 8 undef = .pointer (some ⟨t, 0, none⟩) := hb8
                      have e58 : a.tmps.getD 58 undef = .bool true := hdep 8 _ _ _ rfl rfl rfl (by kernel_rfl)
                      exact wpOp_plain rfl (by simp [Region.wanted, yielded, got_some e58 (by omega)]) (u := .pointer (some ⟨t, 0, none⟩)) (fun ρ hc hf ht => by have f8 := (ht 8).trans e8; clear ht; simp [go_sem, *]) ⟨_, rfl, rfl, Below.refl _ _⟩
                    · as_aux_lemma =>
                      obtain rfl := Option.some.inj ho
                      obtain rfl := Option.some.inj hs
                      have e5 : a.tmps.getD 5 undef = .pointer (some ⟨(w.heap.size + 1), 0, none⟩) := hb5
                      have e58 : a.tmps.getD 58 undef = .bool true := hdep 8 _ _ _ rfl rfl rfl (by kernel_rfl)
                      exact wpOp_plain rfl (by simp [Region.wanted, yielded, got_some e58 (by omega)]) (u := .agg D) (fun ρ hc hf ht => load_row _ rfl ((ht 5).trans e5) J2.out Tryd.underlying49 (by rw [DS.out]; exact info_org)) ⟨_, rfl, rfl, Below.refl _ _⟩
                    · as_aux_lemma =>
                      obtain rfl := Option.some.inj ho
                      obtain rfl := Option.some.inj hs
                      have e59 : a.tmps.getD 59 undef = .pointer (some ⟨t, 0, none⟩) := hdep 9 _ _ _ rfl rfl rfl (by kernel_rfl)
                      have e60 : a.tmps.getD 60 undef = .agg D := hdep 10 _ _ _ rfl rfl rfl (by kernel_rfl)
                      have e58 : a.tmps.getD 58 undef = .bool true := hdep 8 _ _ _ rfl rfl rfl (by kernel_rfl)
                      refine wpOp_calls (f := 31) (args := #[.pointer (some ⟨t, 0, none⟩), .agg D]) rfl (by simp [Region.wanted, yielded, got_some e58 (by omega)]) (fun ρ hc hf ht => by have f59 := (ht 59).trans e59; have f60 := (ht 60).trans e60; clear ht; simp [go_sem, *]) ?_
                      exact (O2.out w2 hbe).mono fun e w' h => ⟨_, h.1, _, rfl, rfl, h.2⟩
                    · as_aux_lemma =>
                      obtain rfl := Option.some.inj ho
                      obtain rfl := Option.some.inj hs
                      have e10 : a.tmps.getD 10 undef = .string SY := hb10
                      have e58 : a.tmps.getD 58 undef = .bool true := hdep 8 _ _ _ rfl rfl rfl (by kernel_rfl)
                      exact wpOp_plain rfl (by simp [Region.wanted, yielded, got_some e58 (by omega)]) (u := .string SY) (fun ρ hc hf ht => by have f10 := (ht 10).trans e10; clear ht; simp [go_sem, *]) ⟨_, rfl, rfl, Below.refl _ _⟩
                    · as_aux_lemma =>
                      obtain rfl := Option.some.inj ho
                      obtain rfl := Option.some.inj hs
                      have e61 : a.tmps.getD 61 undef = .string SY := hdep 11 _ _ _ rfl rfl rfl (by kernel_rfl)
                      have e62 : a.tmps.getD 62 undef = .string SY := hdep 12 _ _ _ rfl rfl rfl (by kernel_rfl)
                      have e58 : a.tmps.getD 58 undef = .bool true := hdep 8 _ _ _ rfl rfl rfl (by kernel_rfl)
                      exact wpOp_plain rfl (by simp [Region.wanted, yielded, got_some e58 (by omega)]) (u := .bool true) (fun ρ hc hf ht => by have f61 := (ht 61).trans e61; have f62 := (ht 62).trans e62; clear ht; simp [go_sem, *]) ⟨_, rfl, rfl, Below.refl _ _⟩
                    · as_aux_lemma =>
                      obtain rfl := Option.some.inj ho
                      obtain rfl := Option.some.inj hs
                      have e58 : a.tmps.getD 58 undef = .bool true := hdep 8 _ _ _ rfl rfl rfl (by kernel_rfl)
                      have e63 : a.tmps.getD 63 undef = .bool true := hdep 13 _ _ _ rfl rfl rfl (by kernel_rfl)
                      exact wpOp_plain rfl rfl (u := .bool true) (fun ρ hc hf ht => by have f58 := (ht 58).trans e58; have f63 := (ht 63).trans e63; clear ht; simp [go_sem, *]) ⟨_, rfl, rfl, Below.refl _ _⟩
                    · as_aux_lemma =>
                      obtain rfl := Option.some.inj ho
                      obtain rfl := Option.some.inj hs
                      have e64 : a.tmps.getD 64 undef = .bool true := hdep 14 _ _ _ rfl rfl rfl (by kernel_rfl)
                      exact wpOp_plain rfl rfl (u := .bool true) (fun ρ hc hf ht => by have f64 := (ht 64).trans e64; clear ht; simp [go_sem, *]) ⟨_, rfl, rfl, Below.refl _ _⟩
                    · as_aux_lemma =>
                      obtain rfl := Option.some.inj ho
                      obtain rfl := Option.some.inj hs
                      have e8 : a.tmps.getD 8 undef = .pointer (some ⟨t, 0, none⟩) := hb8
                      have e65 : a.tmps.getD 65 undef = .bool true := hdep 15 _ _ _ rfl rfl rfl (by kernel_rfl)
                      exact wpOp_plain rfl (by simp [Region.wanted, yielded, got_some e65 (by omega)]) (u := .pointer (some ⟨t, 0, none⟩)) (fun ρ hc hf ht => by have f8 := (ht 8).trans e8; clear ht; simp [go_sem, *]) ⟨_, rfl, rfl, Below.refl _ _⟩
                    · as_aux_lemma =>
                      obtain rfl := Option.some.inj ho
                      obtain rfl := Option.some.inj hs
                      have e4 : a.tmps.getD 4 undef = .pointer (some ⟨w.heap.size, 0, none⟩) := hb4
                      have e65 : a.tmps.getD 65 undef = .bool true := hdep 15 _ _ _ rfl rfl rfl (by kernel_rfl)
                      exact wpOp_plain rfl (by simp [Region.wanted, yielded, got_some e65 (by omega)]) (u := .agg C) (fun ρ hc hf ht => load_row _ rfl ((ht 4).trans e4) K2.out Tryd.underlying49 (by rw [CS.out]; exact info_org)) ⟨_, rfl, rfl, Below.refl _ _⟩
                    · as_aux_lemma =>
                      obtain rfl := Option.some.inj ho
                      obtain rfl := Option.some.inj hs
                      have e5 : a.tmps.getD 5 undef = .pointer (some ⟨(w.heap.size + 1), 0, none⟩) := hb5
                      have e65 : a.tmps.getD 65 undef = .bool true := hdep 15 _ _ _ rfl rfl rfl (by kernel_rfl)
                      exact wpOp_plain rfl (by simp [Region.wanted, yielded, got_some e65 (by omega)]) (u := .agg D) (fun ρ hc hf ht => load_row _ rfl ((ht 5).trans e5) J2.out Tryd.underlying49 (by rw [DS.out]; exact info_org)) ⟨_, rfl, rfl, Below.refl _ _⟩
                    · as_aux_lemma =>
                      obtain rfl := Option.some.inj ho
                      obtain rfl := Option.some.inj hs
                      have e66 : a.tmps.getD 66 undef = .pointer (some ⟨t, 0, none⟩) := hdep 16 _ _ _ rfl rfl rfl (by kernel_rfl)
                      have e67 : a.tmps.getD 67 undef = .agg C := hdep 17 _ _ _ rfl rfl rfl (by kernel_rfl)
                      have e68 : a.tmps.getD 68 undef = .agg D := hdep 18 _ _ _ rfl rfl rfl (by kernel_rfl)
                      have e65 : a.tmps.getD 65 undef = .bool true := hdep 15 _ _ _ rfl rfl rfl (by kernel_rfl)
                      refine wpOp_calls (f := 32) (args := #[.pointer (some ⟨t, 0, none⟩), .agg C, .agg D]) rfl (by simp [Region.wanted, yielded, got_some e65 (by omega)]) (fun ρ hc hf ht => by have f66 := (ht 66).trans e66; have f67 := (ht 67).trans e67; have f68 := (ht 68).trans e68; clear ht; simp [go_sem, *]) ?_
                      exact (O3.out w2 hbe).mono fun e w' h => ⟨_, h.1, _, rfl, rfl, h.2⟩
                    · as_aux_lemma =>
                      obtain rfl := Option.some.inj ho
                      obtain rfl := Option.some.inj hs
                      have e4 : a.tmps.getD 4 undef = .pointer (some ⟨w.heap.size, 0, none⟩) := hb4
                      have e65 : a.tmps.getD 65 undef = .bool true := hdep 15 _ _ _ rfl rfl rfl (by kernel_rfl)
                      exact wpOp_plain rfl (by simp [Region.wanted, yielded, got_some e65 (by omega)]) (u := .pointer (some ⟨w.heap.size, 0, none⟩)) (fun ρ hc hf ht => by have f4 := (ht 4).trans e4; clear ht; simp [go_sem, *]) ⟨_, rfl, rfl, Below.refl _ _⟩
                    · as_aux_lemma =>
                      obtain rfl := Option.some.inj ho
                      obtain rfl := Option.some.inj hs
                      have e70 : a.tmps.getD 70 undef = .pointer (some ⟨w.heap.size, 0, none⟩) := hdep 20 _ _ _ rfl rfl rfl (by kernel_rfl)
                      have e65 : a.tmps.getD 65 undef = .bool true := hdep 15 _ _ _ rfl rfl rfl (by kernel_rfl)
                      exact wpOp_plain rfl (by simp [Region.wanted, yielded, got_some e65 (by omega)]) (u := .bool true) (fun ρ hc hf ht => by have f70 := (ht 70).trans e70; clear ht; have q0 := x0; simp [go_sem, *]) ⟨_, rfl, rfl, Below.refl _ _⟩
                    · as_aux_lemma =>
                      obtain rfl := Option.some.inj ho
                      obtain rfl := Option.some.inj hs
                      have e71 : a.tmps.getD 71 undef = .bool true := hdep 21 _ _ _ rfl rfl rfl (by kernel_rfl)
                      have e65 : a.tmps.getD 65 undef = .bool true := hdep 15 _ _ _ rfl rfl rfl (by kernel_rfl)
                      exact wpOp_plain rfl (by simp [Region.wanted, yielded, got_some e65 (by omega)]) (u := .bool false) (fun ρ hc hf ht => by have f71 := (ht 71).trans e71; clear ht; simp [go_sem, *]) ⟨_, rfl, rfl, Below.refl _ _⟩
                    · as_aux_lemma =>
                      obtain rfl := Option.some.inj ho
                      obtain rfl := Option.some.inj hs
                      have e72 : a.tmps.getD 72 undef = .bool false := hdep 22 _ _ _ rfl rfl rfl (by kernel_rfl)
                      have e65 : a.tmps.getD 65 undef = .bool true := hdep 15 _ _ _ rfl rfl rfl (by kernel_rfl)
                      exact wpOp_plain rfl (by simp [Region.wanted, yielded, got_some e65 (by omega)]) (u := .bool false) (fun ρ hc hf ht => by have f72 := (ht 72).trans e72; clear ht; simp [go_sem, *]) ⟨_, rfl, rfl, Below.refl _ _⟩
                    · as_aux_lemma =>
                      obtain rfl := Option.some.inj ho
                      obtain rfl := Option.some.inj hs
                      have e73 : a.tmps.getD 73 undef = .bool false := hdep 23 _ _ _ rfl rfl rfl (by kernel_rfl)
                      exact wpOp_skipped rfl (by simp [Region.wanted, yielded, got_some e73 (by omega)]) ⟨_, rfl, rfl, Below.refl _ _⟩
                    · as_aux_lemma =>
                      obtain rfl := Option.some.inj ho
                      obtain rfl := Option.some.inj hs
                      have e73 : a.tmps.getD 73 undef = .bool false := hdep 23 _ _ _ rfl rfl rfl (by kernel_rfl)
                      exact wpOp_skipped rfl (by simp [Region.wanted, yielded, got_some e73 (by omega)]) ⟨_, rfl, rfl, Below.refl _ _⟩
                    · as_aux_lemma =>
                      obtain rfl := Option.some.inj ho
                      obtain rfl := Option.some.inj hs
                      have e73 : a.tmps.getD 73 undef = .bool false := hdep 23 _ _ _ rfl rfl rfl (by kernel_rfl)
                      exact wpOp_skipped rfl (by simp [Region.wanted, yielded, got_some e73 (by omega)]) ⟨_, rfl, rfl, Below.refl _ _⟩
                    · as_aux_lemma =>
                      obtain rfl := Option.some.inj ho
                      obtain rfl := Option.some.inj hs
                      have e73 : a.tmps.getD 73 undef = .bool false := hdep 23 _ _ _ rfl rfl rfl (by kernel_rfl)
                      have e76 : a.tmps.getD 76 undef = undef := hdep 26 _ _ _ rfl rfl rfl (by kernel_rfl)
                      have e65 : a.tmps.getD 65 undef = .bool true := hdep 15 _ _ _ rfl rfl rfl (by kernel_rfl)
                      exact wpOp_plain rfl (by simp [Region.wanted, yielded, got_some e65 (by omega)]) (u := .bool false) (fun ρ hc hf ht => by have f73 := (ht 73).trans e73; have f76 := (ht 76).trans e76; clear ht; simp [go_sem, *]) ⟨_, rfl, rfl, Below.refl _ _⟩
                    · as_aux_lemma =>
                      obtain rfl := Option.some.inj ho
                      obtain rfl := Option.some.inj hs
                      have e77 : a.tmps.getD 77 undef = .bool false := hdep 27 _ _ _ rfl rfl rfl (by kernel_rfl)
                      have e65 : a.tmps.getD 65 undef = .bool true := hdep 15 _ _ _ rfl rfl rfl (by kernel_rfl)
                      exact wpOp_plain rfl (by simp [Region.wanted, yielded, got_some e65 (by omega)]) (u := .bool false) (fun ρ hc hf ht => by have f77 := (ht 77).trans e77; clear ht; simp [go_sem, *]) ⟨_, rfl, rfl, Below.refl _ _⟩
                    · as_aux_lemma =>
                      obtain rfl := Option.some.inj ho
                      obtain rfl := Option.some.inj hs
                      have e78 : a.tmps.getD 78 undef = .bool false := hdep 28 _ _ _ rfl rfl rfl (by kernel_rfl)
                      exact wpOp_skipped rfl (by simp [Region.wanted, yielded, got_some e78 (by omega)]) ⟨_, rfl, rfl, Below.refl _ _⟩
                    · as_aux_lemma =>
                      obtain rfl := Option.some.inj ho
                      obtain rfl := Option.some.inj hs
                      have e78 : a.tmps.getD 78 undef = .bool false := hdep 28 _ _ _ rfl rfl rfl (by kernel_rfl)
                      exact wpOp_skipped rfl (by simp [Region.wanted, yielded, got_some e78 (by omega)]) ⟨_, rfl, rfl, Below.refl _ _⟩
                    · as_aux_lemma =>
                      obtain rfl := Option.some.inj ho
                      obtain rfl := Option.some.inj hs
                      have e78 : a.tmps.getD 78 undef = .bool false := hdep 28 _ _ _ rfl rfl rfl (by kernel_rfl)
                      exact wpOp_skipped rfl (by simp [Region.wanted, yielded, got_some e78 (by omega)]) ⟨_, rfl, rfl, Below.refl _ _⟩
                    · as_aux_lemma =>
                      obtain rfl := Option.some.inj ho
                      obtain rfl := Option.some.inj hs
                      have e78 : a.tmps.getD 78 undef = .bool false := hdep 28 _ _ _ rfl rfl rfl (by kernel_rfl)
                      have e81 : a.tmps.getD 81 undef = undef := hdep 31 _ _ _ rfl rfl rfl (by kernel_rfl)
                      have e65 : a.tmps.getD 65 undef = .bool true := hdep 15 _ _ _ rfl rfl rfl (by kernel_rfl)
                      exact wpOp_plain rfl (by simp [Region.wanted, yielded, got_some e65 (by omega)]) (u := .bool false) (fun ρ hc hf ht => by have f78 := (ht 78).trans e78; have f81 := (ht 81).trans e81; clear ht; simp [go_sem, *]) ⟨_, rfl, rfl, Below.refl _ _⟩
                    · as_aux_lemma =>
                      obtain rfl := Option.some.inj ho
                      obtain rfl := Option.some.inj hs
                      have e69 : a.tmps.getD 69 undef = .bool false := hdep 19 _ _ _ rfl rfl rfl (by kernel_rfl)
                      have e82 : a.tmps.getD 82 undef = .bool false := hdep 32 _ _ _ rfl rfl rfl (by kernel_rfl)
                      have e65 : a.tmps.getD 65 undef = .bool true := hdep 15 _ _ _ rfl rfl rfl (by kernel_rfl)
                      exact wpOp_plain rfl (by simp [Region.wanted, yielded, got_some e65 (by omega)]) (u := .bool true) (fun ρ hc hf ht => by have f69 := (ht 69).trans e69; have f82 := (ht 82).trans e82; clear ht; simp [go_sem, *]) ⟨_, rfl, rfl, Below.refl _ _⟩
                    · as_aux_lemma =>
                      obtain rfl := Option.some.inj ho
                      obtain rfl := Option.some.inj hs
                      have e65 : a.tmps.getD 65 undef = .bool true := hdep 15 _ _ _ rfl rfl rfl (by kernel_rfl)
                      have e83 : a.tmps.getD 83 undef = .bool true := hdep 33 _ _ _ rfl rfl rfl (by kernel_rfl)
                      exact wpOp_plain rfl rfl (u := .bool true) (fun ρ hc hf ht => by have f65 := (ht 65).trans e65; have f83 := (ht 83).trans e83; clear ht; simp [go_sem, *]) ⟨_, rfl, rfl, Below.refl _ _⟩
                    · as_aux_lemma =>
                      obtain rfl := Option.some.inj ho
                      obtain rfl := Option.some.inj hs
                      have e84 : a.tmps.getD 84 undef = .bool true := hdep 34 _ _ _ rfl rfl rfl (by kernel_rfl)
                      exact wpOp_plain rfl rfl (u := .bool true) (fun ρ hc hf ht => by have f84 := (ht 84).trans e84; clear ht; simp [go_sem, *]) ⟨_, rfl, rfl, Below.refl _ _⟩
                    · as_aux_lemma =>
                      obtain rfl := Option.some.inj ho
                      obtain rfl := Option.some.inj hs
                      have e8 : a.tmps.getD 8 undef = .pointer (some ⟨t, 0, none⟩) := hb8
                      have e85 : a.tmps.getD 85 undef = .bool true := hdep 35 _ _ _ rfl rfl rfl (by kernel_rfl)
                      exact wpOp_plain rfl (by simp [Region.wanted, yielded, got_some e85 (by omega)]) (u := .pointer (some ⟨t, 0, none⟩)) (fun ρ hc hf ht => by have f8 := (ht 8).trans e8; clear ht; simp [go_sem, *]) ⟨_, rfl, rfl, Below.refl _ _⟩
                    · as_aux_lemma =>
                      obtain rfl := Option.some.inj ho
                      obtain rfl := Option.some.inj hs
                      have e4 : a.tmps.getD 4 undef = .pointer (some ⟨w.heap.size, 0, none⟩) := hb4
                      have e85 : a.tmps.getD 85 undef = .bool true := hdep 35 _ _ _ rfl rfl rfl (by kernel_rfl)
                      exact wpOp_plain rfl (by simp [Region.wanted, yielded, got_some e85 (by omega)]) (u := .agg C) (fun ρ hc hf ht => load_row _ rfl ((ht 4).trans e4) K2.out Tryd.underlying49 (by rw [CS.out]; exact info_org)) ⟨_, rfl, rfl, Below.refl _ _⟩
                    · as_aux_lemma =>
                      obtain rfl := Option.some.inj ho
                      obtain rfl := Option.some.inj hs
                      have e4 : a.tmps.getD 4 undef = .pointer (some ⟨w.heap.size, 0, none⟩) := hb4
                      have e85 : a.tmps.getD 85 undef = .bool true := hdep 35 _ _ _ rfl rfl rfl (by kernel_rfl)
                      exact wpOp_plain rfl (by simp [Region.wanted, yielded, got_some e85 (by omega)]) (u := .agg C) (fun ρ hc hf ht => load_row _ rfl ((ht 4).trans e4) K2.out Tryd.underlying49 (by rw [CS.out]; exact info_org)) ⟨_, rfl, rfl, Below.refl _ _⟩
                    · as_aux_lemma =>
                      obtain rfl := Option.some.inj ho
                      obtain rfl := Option.some.inj hs
                      have e86 : a.tmps.getD 86 undef = .pointer (some ⟨t, 0, none⟩) := hdep 36 _ _ _ rfl rfl rfl (by kernel_rfl)
                      have e87 : a.tmps.getD 87 undef = .agg C := hdep 37 _ _ _ rfl rfl rfl (by kernel_rfl)
                      have e88 : a.tmps.getD 88 undef = .agg C := hdep 38 _ _ _ rfl rfl rfl (by kernel_rfl)
                      have e85 : a.tmps.getD 85 undef = .bool true := hdep 35 _ _ _ rfl rfl rfl (by kernel_rfl)
                      refine wpOp_calls (f := 32) (args := #[.pointer (some ⟨t, 0, none⟩), .agg C, .agg C]) rfl (by simp [Region.wanted, yielded, got_some e85 (by omega)]) (fun ρ hc hf ht => by have f86 := (ht 86).trans e86; have f87 := (ht 87).trans e87; have f88 := (ht 88).trans e88; clear ht; simp [go_sem, *]) ?_
                      exact (O4.out w2 hbe).mono fun e w' h => ⟨_, h.1, _, rfl, rfl, h.2⟩
                    · as_aux_lemma =>
                      obtain rfl := Option.some.inj ho
                      obtain rfl := Option.some.inj hs
                      have e4 : a.tmps.getD 4 undef = .pointer (some ⟨w.heap.size, 0, none⟩) := hb4
                      have e85 : a.tmps.getD 85 undef = .bool true := hdep 35 _ _ _ rfl rfl rfl (by kernel_rfl)
                      exact wpOp_plain rfl (by simp [Region.wanted, yielded, got_some e85 (by omega)]) (u := .pointer (some ⟨w.heap.size, 0, none⟩)) (fun ρ hc hf ht => by have f4 := (ht 4).trans e4; clear ht; simp [go_sem, *]) ⟨_, rfl, rfl, Below.refl _ _⟩
                    · as_aux_lemma =>
                      obtain rfl := Option.some.inj ho
                      obtain rfl := Option.some.inj hs
                      have e90 : a.tmps.getD 90 undef = .pointer (some ⟨w.heap.size, 0, none⟩) := hdep 40 _ _ _ rfl rfl rfl (by kernel_rfl)
                      have e85 : a.tmps.getD 85 undef = .bool true := hdep 35 _ _ _ rfl rfl rfl (by kernel_rfl)
                      exact wpOp_plain rfl (by simp [Region.wanted, yielded, got_some e85 (by omega)]) (u := .bool true) (fun ρ hc hf ht => by have f90 := (ht 90).trans e90; clear ht; have q0 := x0; simp [go_sem, *]) ⟨_, rfl, rfl, Below.refl _ _⟩
                    · as_aux_lemma =>
                      obtain rfl := Option.some.inj ho
                      obtain rfl := Option.some.inj hs
                      have e91 : a.tmps.getD 91 undef = .bool true := hdep 41 _ _ _ rfl rfl rfl (by kernel_rfl)
                      have e85 : a.tmps.getD 85 undef = .bool true := hdep 35 _ _ _ rfl rfl rfl (by kernel_rfl)
                      exact wpOp_plain rfl (by simp [Region.wanted, yielded, got_some e85 (by omega)]) (u := .bool false) (fun ρ hc hf ht => by have f91 := (ht 91).trans e91; clear ht; simp [go_sem, *]) ⟨_, rfl, rfl, Below.refl _ _⟩
                    · as_aux_lemma =>
                      obtain rfl := Option.some.inj ho
                      obtain rfl := Option.some.inj hs
                      have e89 : a.tmps.getD 89 undef = .bool false := hdep 39 _ _ _ rfl rfl rfl (by kernel_rfl)
                      have e92 : a.tmps.getD 92 undef = .bool false := hdep 42 _ _ _ rfl rfl rfl (by kernel_rfl)
                      have e85 : a.tmps.getD 85 undef = .bool true := hdep 35 _ _ _ rfl rfl rfl (by kernel_rfl)
                      exact wpOp_plain rfl (by simp [Region.wanted, yielded, got_some e85 (by omega)]) (u := .bool true) (fun ρ hc hf ht => by have f89 := (ht 89).trans e89; have f92 := (ht 92).trans e92; clear ht; simp [go_sem, *]) ⟨_, rfl, rfl, Below.refl _ _⟩
                    · as_aux_lemma =>
                      obtain rfl := Option.some.inj ho
                      obtain rfl := Option.some.inj hs
                      have e85 : a.tmps.getD 85 undef = .bool true := hdep 35 _ _ _ rfl rfl rfl (by kernel_rfl)
                      have e93 : a.tmps.getD 93 undef = .bool true := hdep 43 _ _ _ rfl rfl rfl (by kernel_rfl)
                      exact wpOp_plain rfl rfl (u := .bool true) (fun ρ hc hf ht => by have f85 := (ht 85).trans e85; have f93 := (ht 93).trans e93; clear ht; simp [go_sem, *]) ⟨_, rfl, rfl, Below.refl _ _⟩
                    · as_aux_lemma =>
                      obtain rfl := Option.some.inj ho
                      obtain rfl := Option.some.inj hs
                      have e94 : a.tmps.getD 94 undef = .bool true := hdep 44 _ _ _ rfl rfl rfl (by kernel_rfl)
                      exact wpOp_plain rfl rfl (u := .bool true) (fun ρ hc hf ht => by have f94 := (ht 94).trans e94; clear ht; simp [go_sem, *]) ⟨_, rfl, rfl, Below.refl _ _⟩
                  · intro a w2 hall hdef hbe
                    have er : a.tmps.getD 6 undef = .bool true := hall 45 _ _ _ rfl rfl rfl
                    rename_i Q9 K9 hK9
                    refine hK9 _ _ (wp_ret ?_)
                    refine bodyPost_ret (results_tmp (t := 6) rfl a.tmps _ w2) hdef ?_
                    rw [er]
                    exact ⟨rfl, belowOn Bu8.out Bu8.out.size hbe⟩
              | false =>
                as_aux_lemma =>
                  go_enter Tryd.func9, Tryd.ntmps9
                  go_wp2_with fail
                  rw [← HW.out]
                  refine (HAW.out W BW.out).mono ?_
                  rintro e u1 ⟨rfl, hb⟩
                  have Ku1 := Lib.hid (KW.out.keep hb)
                  have Ju1 := Lib.hid (JW.out.keep hb)
                  have Bu1 := Lib.hid (belowOn BW.out BW.out.size hb)
                  clear hb BW KW JW
                  go_wp2_with fail
                  refine (F1.out u1 Bu1.out).mono ?_
                  rw [hf1]
                  rintro e w9 ⟨rfl, rfl⟩
                  have z1 := (Ku1.out.cell 3).trans C3.out
                  have lt1 := Ku1.out.lt
                  go_wp2_with fail
                  refine (few17_calls x.h.name u1).mono ?_
                  rintro e u2 ⟨rfl, hb⟩
                  have Ku2 := Lib.hid (Ku1.out.keep hb)
                  have Ju2 := Lib.hid (Ju1.out.keep hb)
                  have Bu2 := Lib.hid (belowOn Bu1.out Bu1.out.size hb)
                  clear hb Bu1 Ku1 Ju1
                  clear z1 lt1
                  rw [decide_eq_true n0]
                  have z1 := (Ju2.out.cell 3).trans D3.out
                  have lt1 := Ju2.out.lt
                  go_wp2_with fail
                  refine (few17_calls y.h.name u2).mono ?_
                  rintro e u3 ⟨rfl, hb⟩
                  have Ku3 := Lib.hid (Ku2.out.keep hb)
                  have Ju3 := Lib.hid (Ju2.out.keep hb)
                  have Bu3 := Lib.hid (belowOn Bu2.out Bu2.out.size hb)
                  clear hb Bu2 Ku2 Ju2
                  clear z1 lt1
                  rw [decide_eq_true n1]
                  have z1 := (Ku3.out.cell 1).trans C1.out
                  have lt1 := Ku3.out.lt
                  go_wp2_with fail
                  refine (few17_calls x.scheme u3).mono ?_
                  rintro e u4 ⟨rfl, hb⟩
                  have Ku4 := Lib.hid (Ku3.out.keep hb)
                  have Ju4 := Lib.hid (Ju3.out.keep hb)
                  have Bu4 := Lib.hid (belowOn Bu3.out Bu3.out.size hb)
                  clear hb Bu3 Ku3 Ju3
                  clear z1 lt1
                  rw [decide_eq_true n2]
                  have z1 := (Ju4.out.cell 1).trans D1.out
                  have lt1 := Ju4.out.lt
                  go_wp2_with fail
                  refine (few17_calls y.scheme u4).mono ?_
                  rintro e u5 ⟨rfl, hb⟩
                  have Ku5 := Lib.hid (Ku4.out.keep hb)
                  have Ju5 := Lib.hid (Ju4.out.keep hb)
                  have Bu5 := Lib.hid (belowOn Bu4.out Bu4.out.size hb)
                  clear hb Bu4 Ku4 Ju4
                  clear z1 lt1
                  rw [decide_eq_true n3]
                  go_wp2_with fail
                  refine (HN.out u5 Bu5.out).mono ?_
                  rintro e u6 ⟨⟨t, a, rfl, ht⟩, hb⟩
                  have Ku6 := Lib.hid (Ku5.out.keep hb)
                  have Ju6 := Lib.hid (Ju5.out.keep hb)
                  have Bu6 := Lib.hid (belowOn Bu5.out Bu5.out.size hb)
                  have Tu6 := Lib.hid ht
                  clear ht
                  clear hb Bu5 Ku5 Ju5
                  have q1 := refof17_calls A c l u6 (HROW.out.keep Bu6.out) (fun x hx => (HOK.out x hx).keep Bu6.out) hlc hcm x HX.out (by omega) (by omega)
                  rw [← CC.out] at q1
                  have R0 := Lib.hid q1
                  clear q1
                  go_wp2_with (with_reducible refine stopG ?_)
                  refine stopS_go ?_
                  refine load_org Ku6.out CS.out (.tmp 4) rfl rfl rfl ?_
                  go_wp2_with fail
                  refine (R0.out).mono ?_
                  rintro e u7 ⟨rfl, hb⟩
                  have Ku7 := Lib.hid (Ku6.out.keep hb)
                  have Ju7 := Lib.hid (Ju6.out.keep hb)
                  have Tu7 := Lib.hid (Tu6.out.keep hb)
                  have Bu7 := Lib.hid (belowOn Bu6.out Bu6.out.size hb)
                  clear hb Bu6 Ku6 Ju6 Tu6
                  have q1 := refof17_calls A c l u7 (HROW.out.keep Bu7.out) (fun x hx => (HOK.out x hx).keep Bu7.out) hlc hcm y HY.out (by omega) (by omega)
                  rw [← DD.out] at q1
                  have R1 := Lib.hid q1
                  clear q1
                  go_wp2_with (with_reducible refine stopG ?_)
                  refine stopS_go ?_
                  refine load_org Ju7.out DS.out (.tmp 5) rfl rfl rfl ?_
                  go_wp2_with fail
                  refine (R1.out).mono ?_
                  rintro e u8 ⟨rfl, hb⟩
                  have Ku8 := Lib.hid (Ku7.out.keep hb)
                  have Ju8 := Lib.hid (Ju7.out.keep hb)
                  have Tu8 := Lib.hid (Tu7.out.keep hb)
                  have Bu8 := Lib.hid (belowOn Bu7.out Bu7.out.size hb)
                  clear hb Bu7 Ku7 Ju7 Tu7
                  have o1 := fun (V : World) (hb : Below u8.heap.size u8 V) => of17_calls (Tu8.out.keep hb) (HF.out _ (belowOn Bu8.out Bu8.out.size hb)) x HX.out (by omega) (by omega)
                  have o2 := fun (V : World) (hb : Below u8.heap.size u8 V) => of17_calls (Tu8.out.keep hb) (HF.out _ (belowOn Bu8.out Bu8.out.size hb)) y HY.out (by omega) (by omega)
                  have o3 := fun (V : World) (hb : Below u8.heap.size u8 V) => same17_calls (Tu8.out.keep hb) (HF.out _ (belowOn Bu8.out Bu8.out.size hb)) x y HX.out HY.out (by omega) (by omega) (by omega) (by omega)
                  have o4 := fun (V : World) (hb : Below u8.heap.size u8 V) => same17_calls (Tu8.out.keep hb) (HF.out _ (belowOn Bu8.out Bu8.out.size hb)) x x HX.out HX.out (by omega) (by omega) (by omega) (by omega)
                  rw [← CC.out] at o1
                  rw [← DD.out] at o2
                  rw [HS1.out, ← CC.out, ← DD.out] at o3
                  rw [HS2.out, ← CC.out] at o4
                  have hcm := HCM.out
                  generalize mkB (siteT (l.map (·.r)) x) = SX at o1 hcm ⊢
                  generalize mkB (siteT (l.map (·.r)) y) = SY at o2 hcm ⊢
                  have O1 := Lib.hid o1
                  have O2 := Lib.hid o2
                  have O3 := Lib.hid o3
                  have O4 := Lib.hid o4
                  have HC := Lib.hid hcm
                  clear o1 o2 o3 o4 hcm
                  go_upto_region 7 with fail
                  clear HAW HF HN HROW HOK HW HX HY C1 C3 D1 D3 Tu8 R0 R1 HS1 HS2 HCM F1
                  refine wp_region_RI [.is (.bool true), .is (.bool true), .is (.pointer (some ⟨t, 0, none⟩)), .is (.agg C), .is (.string SX), .is (.string SX), .is (.bool true), .is (.bool true), .is (.bool true), .is (.pointer (some ⟨t, 0, none⟩)), .is (.agg D), .is (.string SY), .is (.string SY), .is (.bool true), .is (.bool true), .is (.bool true), .is (.pointer (some ⟨t, 0, none⟩)), .is (.agg C), .is (.agg D), .is (.bool false), .is (.pointer (some ⟨w.heap.size, 0, none⟩)), .is (.bool true), .is (.bool false), .is (.bool false), .is (undef), .is (undef), .is (undef), .is (.bool false), .is (.bool false), .is (undef), .is (undef), .is (undef), .is (.bool false), .is (.bool true), .is (.bool true), .is (.bool true), .is (.pointer (some ⟨t, 0, none⟩)), .is (.agg C), .is (.agg C), .is (.bool false), .is (.pointer (some ⟨w.heap.size, 0, none⟩)), .is (.bool true), .is (.bool false), .is (.bool true), .is (.bool true), .is (.bool true)] (by kernel_rfl) (by kernel_rfl) (by kernel_rfl) ?_ ?_
                  · intro i o sp ho hs a w2 hbe htz hkept hdep
                    have hi : i < 46 := (Array.getElem?_eq_some_iff.1 ho).1
                    have hsz : a.tmps.size = 95 := htz
                    have K2 := Lib.hid (Ku8.out.keep hbe)
                    have J2 := Lib.hid (Ju8.out.keep hbe)
                    have x0 := (K2.out.cell 0).trans C0.out
                    have y0 := (J2.out.cell 0).trans D0.out
                    have lt1 := K2.out.lt
                    have lt2 := J2.out.lt
                    have hb7 : a.tmps.getD 7 undef = .bool true := hkept 7 (noDst_spec (by kernel_rfl))
                    have hb8 : a.tmps.getD 8 undef = .pointer (some ⟨t, 0, none⟩) := hkept 8 (noDst_spec (by kernel_rfl))
                    have hb9 : a.tmps.getD 9 undef = .string SX := hkept 9 (noDst_spec (by kernel_rfl))
                    have hb10 : a.tmps.getD 10 undef = .string SY := hkept 10 (noDst_spec (by kernel_rfl))
                    have hb4 : a.tmps.getD 4 undef = .pointer (some ⟨w.heap.size, 0, none⟩) := hkept 4 (noDst_spec (by kernel_rfl))
                    have hb5 : a.tmps.getD 5 undef = .pointer (some ⟨(w.heap.size + 1), 0, none⟩) := hkept 5 (noDst_spec (by kernel_rfl))
                    rcases (by omega : i = 0 ∨ i = 1 ∨ i = 2 ∨ i = 3 ∨ i = 4 ∨ i = 5 ∨ i = 6 ∨ i = 7 ∨ i = 8 ∨ i = 9 ∨ i = 10 ∨ i = 11 ∨ i = 12 ∨ i = 13 ∨ i = 14 ∨ i = 15 ∨ i = 16 ∨ i = 17 ∨ i = 18 ∨ i = 19 ∨ i = 20 ∨ i = 21 ∨ i = 22 ∨ i = 23 ∨ i = 24 ∨ i = 25 ∨ i = 26 ∨ i = 27 ∨ i = 28 ∨ i = 29 ∨ i = 30 ∨ i = 31 ∨ i = 32 ∨ i = 33 ∨ i = 34 ∨ i = 35 ∨ i = 36 ∨ i = 37 ∨ i = 38 ∨ i = 39 ∨ i = 40 ∨ i = 41 ∨ i = 42 ∨ i = 43 ∨ i = 44 ∨ i = 45) with rfl | rfl | rfl | rfl | rfl | rfl | rfl | rfl | rfl | rfl | rfl | rfl | rfl | rfl | rfl | rfl | rfl | rfl | rfl | rfl | rfl | rfl | rfl | rfl | rfl | rfl | rfl | rfl | rfl | rfl | rfl | rfl | rfl | rfl | rfl | rfl | rfl | rfl | rfl | rfl | rfl | rfl | rfl | rfl | rfl | rfl
                    · as_aux_lemma =>
                      obtain rfl := Option.some.inj ho
                      obtain rfl := Option.some.inj hs
                      have e7 : a.tmps.getD 7 undef = .bool true := hb7
                      exact wpOp_plain rfl rfl (u := .bool true) (fun ρ hc hf ht => by have f7 := (ht 7).trans e7; clear ht; simp [go_sem, *]) ⟨_, rfl, rfl, Below.refl _ _⟩
                    · as_aux_lemma =>
                      obtain rfl := Option.some.inj ho
                      obtain rfl := Option.some.inj hs
                      have e50 : a.tmps.getD 50 undef = .bool true := hdep 0 _ _ _ rfl rfl rfl (by kernel_rfl)
                      exact wpOp_plain rfl rfl (u := .bool true) (fun ρ hc hf ht => by have f50 := (ht 50).trans e50; clear ht; simp [go_sem, *]) ⟨_, rfl, rfl, Below.refl _ _⟩
                    · as_aux_lemma =>
                      obtain rfl := Option.some.inj ho
                      obtain rfl := Option.some.inj hs
                      have e8 : a.tmps.getD 8 undef = .pointer (some ⟨t, 0, none⟩) := hb8
                      have e51 : a.tmps.getD 51 undef = .bool true := hdep 1 _ _ _ rfl rfl rfl (by kernel_rfl)
                      exact wpOp_plain rfl (by simp [Region.wanted, yielded, got_some e51 (by omega)]) (u := .pointer (some ⟨t, 0, none⟩)) (fun ρ hc hf ht => by have f8 := (ht 8).trans e8; clear ht; simp [go_sem, *]) ⟨_, rfl, rfl, Below.refl _ _⟩
                    · as_aux_lemma =>
                      obtain rfl := Option.some.inj ho
                      obtain rfl := Option.some.inj hs
                      have e4 : a.tmps.getD 4 undef = .pointer (some ⟨w.heap.size, 0, none⟩) := hb4
                      have e51 : a.tmps.getD 51 undef = .bool true := hdep 1 _ _ _ rfl rfl rfl (by kernel_rfl)
                      exact wpOp_plain rfl (by simp [Region.wanted, yielded, got_some e51 (by omega)]) (u := .agg C) (fun ρ hc hf ht => load_row _ rfl ((ht 4).trans e4) K2.out Tryd.underlying49 (by rw [CS.out]; exact info_org)) ⟨_, rfl, rfl, Below.refl _ _⟩
                    · as_aux_lemma =>
                      obtain rfl := Option.some.inj ho
                      obtain rfl := Option.some.inj hs
                      have e52 : a.tmps.getD 52 undef = .pointer (some ⟨t, 0, none⟩) := hdep 2 _ _ _ rfl rfl rfl (by kernel_rfl)
                      have e53 : a.tmps.getD 53 undef = .agg C := hdep 3 _ _ _ rfl rfl rfl (by kernel_rfl)
                      have e51 : a.tmps.getD 51 undef = .bool true := hdep 1 _ _ _ rfl rfl rfl (by kernel_rfl)
                      refine wpOp_calls (f := 31) (args := #[.pointer (some ⟨t, 0, none⟩), .agg C]) rfl (by simp [Region.wanted, yielded, got_some e51 (by omega)]) (fun ρ hc hf ht => by have f52 := (ht 52).trans e52; have f53 := (ht 53).trans e53; clear ht; simp [go_sem, *]) ?_
                      exact (O1.out w2 hbe).mono fun e w' h => ⟨_, h.1, _, rfl, rfl, h.2⟩
                    · as_aux_lemma =>
                      obtain rfl := Option.some.inj ho
                      obtain rfl := Option.some.inj hs
                      have e9 : a.tmps.getD 9 undef = .string SX := hb9
                      have e51 : a.tmps.getD 51 undef = .bool true := hdep 1 _ _ _ rfl rfl rfl (by kernel_rfl)
                      exact wpOp_plain rfl (by simp [Region.wanted, yielded, got_some e51 (by omega)]) (u := .string SX) (fun ρ hc hf ht => by have f9 := (ht 9).trans e9; clear ht; simp [go_sem, *]) ⟨_, rfl, rfl, Below.refl _ _⟩
                    · as_aux_lemma =>
                      obtain rfl := Option.some.inj ho
                      obtain rfl := Option.some.inj hs
                      have e54 : a.tmps.getD 54 undef = .string SX := hdep 4 _ _ _ rfl rfl rfl (by kernel_rfl)
                      have e55 : a.tmps.getD 55 undef = .string SX := hdep 5 _ _ _ rfl rfl rfl (by kernel_rfl)
                      have e51 : a.tmps.getD 51 undef = .bool true := hdep 1 _ _ _ rfl rfl rfl (by kernel_rfl)
                      exact wpOp_plain rfl (by simp [Region.wanted, yielded, got_some e51 (by omega)]) (u := .bool true) (fun ρ hc hf ht => by have f54 := (ht 54).trans e54; have f55 := (ht 55).trans e55; clear ht; simp [go_sem, *]) ⟨_, rfl, rfl, Below.refl _ _⟩
                    · as_aux_lemma =>
                      obtain rfl := Option.some.inj ho
                      obtain rfl := Option.some.inj hs
                      have e51 : a.tmps.getD 51 undef = .bool true := hdep 1 _ _ _ rfl rfl rfl (by kernel_rfl)
                      have e56 : a.tmps.getD 56 undef = .bool true := hdep 6 _ _ _ rfl rfl rfl (by kernel_rfl)
                      exact wpOp_plain rfl rfl (u := .bool true) (fun ρ hc hf ht => by have f51 := (ht 51).trans e51; have f56 := (ht 56).trans e56; clear ht; simp [go_sem, *]) ⟨_, rfl, rfl, Below.refl _ _⟩
                    · as_aux_lemma =>
                      obtain rfl := Option.some.inj ho
                      obtain rfl := Option.some.inj hs
                      have e57 : a.tmps.getD 57 undef = .bool true := hdep 7 _ _ _ rfl rfl rfl (by kernel_rfl)
                      exact wpOp_plain rfl rfl (u := .bool true) (fun ρ hc hf ht => by have f57 := (ht 57).trans e57; clear ht; simp [go_sem, *]) ⟨_, rfl, rfl, Below.refl _ _⟩
                    · as_aux_lemma =>
                      obtain rfl := Option.some.inj ho
                      obtain rfl := Option.some.inj hs
                      have e8 : a.tmps.getD 8 undef = .pointer (some ⟨t, 0, none⟩) := hb8
                      have e58 : a.tmps.getD 58 undef = .bool true := hdep 8 _ _ _ rfl rfl rfl (by kernel_rfl)
                      exact wpOp_plain rfl (by simp [Region.wanted, yielded, got_some e58 (by omega)]) (u := .pointer (some ⟨t, 0, none⟩)) (fun ρ hc hf ht => by have f8 := (ht 8).trans e8; clear ht; simp [go_sem, *]) ⟨_, rfl, rfl, Below.refl _ _⟩
                    · as_aux_lemma =>
                      obtain rfl := Option.some.inj ho
                      obtain rfl := Option.some.inj hs
                      have e5 : a.tmps.getD 5 undef = .pointer (some ⟨(w.heap.size + 1), 0, none⟩) := hb5
                      have e58 : a.tmps.getD 58 undef = .bool true := hdep 8 _ _ _ rfl rfl rfl (by kernel_rfl)
                      exact wpOp_plain rfl (by simp [Region.wanted, yielded, got_some e58 (by omega)]) (u := .agg D) (fun ρ hc hf ht => load_row _ rfl ((ht 5).trans e5) J2.out Tryd.underlying49 (by rw [DS.out]; exact info_org)) ⟨_, rfl, rfl, Below.refl _ _⟩
                    · as_aux_lemma =>
                      obtain rfl := Option.some.inj ho
                      obtain rfl := Option.some.inj hs
                      have e59 : a.tmps.getD 59 undef = .pointer (some ⟨t, 0, none⟩) := hdep 9 _ _ _ rfl rfl rfl (by kernel_rfl)
                      have e60 : a.tmps.getD 60 undef = .agg D := hdep 10 _ _ _ rfl rfl rfl (by kernel_rfl)
                      have e58 : a.tmps.getD 58 undef = .bool true := hdep 8 _ _ _ rfl rfl rfl (by kernel_rfl)
                      refine wpOp_calls (f := 31) (args := #[.pointer (some ⟨t, 0, none⟩), .agg D]) rfl (by simp [Region.wanted, yielded, got_some e58 (by omega)]) (fun ρ hc hf ht => by have f59 := (ht 59).trans e59; have f60 := (ht 60).trans e60; clear ht; simp [go_sem, *]) ?_
                      exact (O2.out w2 hbe).mono fun e w' h => ⟨_, h.1, _, rfl, rfl, h.2⟩
                    · as_aux_lemma =>
                      obtain rfl := Option.some.inj ho
                      obtain rfl := Option.some.inj hs
                      have e10 : a.tmps.getD 10 undef = .string SY := hb10
                      have e58 : a.tmps.getD 58 undef = .bool true := hdep 8 _ _ _ rfl rfl rfl (by kernel_rfl)
                      exact wpOp_plain rfl (by simp [Region.wanted, yielded, got_some e58 (by omega)]) (u := .string SY) (fun ρ hc hf ht => by have f10 := (ht 10).trans e10; clear ht; simp [go_sem, *]) ⟨_, rfl, rfl, Below.refl _ _⟩
                    · as_aux_lemma =>
                      obtain rfl := Option.some.inj ho
                      obtain rfl := Option.some.inj hs
                      have e61 : a.tmps.getD 61 undef = .string SY := hdep 11 _ _ _ rfl rfl rfl (by kernel_rfl)
                      have e62 : a.tmps.getD 62 undef = .string SY := hdep 12 _ _ _ rfl rfl rfl (by kernel_rfl)
                      have e58 : a.tmps.getD 58 undef = .bool true := hdep 8 _ _ _ rfl rfl rfl (by kernel_rfl)
                      exact wpOp_plain rfl (by simp [Region.wanted, yielded, got_some e58 (by omega)]) (u := .bool true) (fun ρ hc hf ht => by have f61 := (ht 61).trans e61; have f62 := (ht 62).trans e62; clear ht; simp [go_sem, *]) ⟨_, rfl, rfl, Below.refl _ _⟩
                    · as_aux_lemma =>
                      obtain rfl := Option.some.inj ho
                      obtain rfl := Option.some.inj hs
                      have e58 : a.tmps.getD 58 undef = .bool true := hdep 8 _ _ _ rfl rfl rfl (by kernel_rfl)
                      have e63 : a.tmps.getD 63 undef = .bool true := hdep 13 _ _ _ rfl rfl rfl (by kernel_rfl)
                      exact wpOp_plain rfl rfl (u := .bool true) (fun ρ hc hf ht => by have f58 := (ht 58).trans e58; have f63 := (ht 63).trans e63; clear ht; simp [go_sem, *]) ⟨_, rfl, rfl, Below.refl _ _⟩
                    · as_aux_lemma =>
                      obtain rfl := Option.some.inj ho
                      obtain rfl := Option.some.inj hs
                      have e64 : a.tmps.getD 64 undef = .bool true := hdep 14 _ _ _ rfl rfl rfl (by kernel_rfl)
                      exact wpOp_plain rfl rfl (u := .bool true) (fun ρ hc hf ht => by have f64 := (ht 64).trans e64; clear ht; simp [go_sem, *]) ⟨_, rfl, rfl, Below.refl _ _⟩
                    · as_aux_lemma =>
                      obtain rfl := Option.some.inj ho
                      obtain rfl := Option.some.inj hs
                      have e8 : a.tmps.getD 8 undef = .pointer (some ⟨t, 0, none⟩) := hb8
                      have e65 : a.tmps.getD 65 undef = .bool true := hdep 15 _ _ _ rfl rfl rfl (by kernel_rfl)
                      exact wpOp_plain rfl (by simp [Region.wanted, yielded, got_some e65 (by omega)]) (u := .pointer (some ⟨t, 0, none⟩)) (fun ρ hc hf ht => by have f8 := (ht 8).trans e8; clear ht; simp [go_sem, *]) ⟨_, rfl, rfl, Below.refl _ _⟩
                    · as_aux_lemma =>
                      obtain rfl := Option.some.inj ho
                      obtain rfl := Option.some.inj hs
                      have e4 : a.tmps.getD 4 undef = .pointer (some ⟨w.heap.size, 0, none⟩) := hb4
                      have e65 : a.tmps.getD 65 undef = .bool true := hdep 15 _ _ _ rfl rfl rfl (by kernel_rfl)
                      exact wpOp_plain rfl (by simp [Region.wanted, yielded, got_some e65 (by omega)]) (u := .agg C) (fun ρ hc hf ht => load_row _ rfl ((ht 4).trans e4) K2.out Tryd.underlying49 (by rw [CS.out]; exact info_org)) ⟨_, rfl, rfl, Below.refl _ _⟩
                    · as_aux_lemma =>
                      obtain rfl := Option.some.inj ho
                      obtain rfl := Option.some.inj hs
                      have e5 : a.tmps.getD 5 undef = .pointer (some ⟨(w.heap.size + 1), 0, none⟩) := hb5
                      have e65 : a.tmps.getD 65 undef = .bool true := hdep 15 _ _ _ rfl rfl rfl (by kernel_rfl)
                      exact wpOp_plain rfl (by simp [Region.wanted, yielded, got_some e65 (by omega)]) (u := .agg D) (fun ρ hc hf ht => load_row _ rfl ((ht 5).trans e5) J2.out Tryd.underlying49 (by rw [DS.out]; exact info_org)) ⟨_, rfl, rfl, Below.refl _ _⟩
                    · as_aux_lemma =>
                      obtain rfl := Option.some.inj ho
                      obtain rfl := Option.some.inj hs
                      have e66 : a.tmps.getD 66 undef = .pointer (some ⟨t, 0, none⟩) := hdep 16 _ _ _ rfl rfl rfl (by kernel_rfl)
                      have e67 : a.tmps.getD 67 undef = .agg C := hdep 17 _ _ _ rfl rfl rfl (by kernel_rfl)
                      have e68 : a.tmps.getD 68 undef = .agg D := hdep 18 _ _ _ rfl rfl rfl (by kernel_rfl)
                      have e65 : a.tmps.getD 65 undef = .bool true := hdep 15 _ _ _ rfl rfl rfl (by kernel_rfl)
                      refine wpOp_calls (f := 32) (args := #[.pointer (some ⟨t, 0, none⟩), .agg C, .agg D]) rfl (by simp [Region.wanted, yielded, got_some e65 (by omega)]) (fun ρ hc hf ht => by have f66 := (ht 66).trans e66; have f67 := (ht 67).trans e67; have f68 := (ht 68).trans e68; clear ht; simp [go_sem, *]) ?_
                      exact (O3.out w2 hbe).mono fun e w' h => ⟨_, h.1, _, rfl, rfl, h.2⟩
                    · as_aux_lemma =>
                      obtain rfl := Option.some.inj ho
                      obtain rfl := Option.some.inj hs
                      have e4 : a.tmps.getD 4 undef = .pointer (some ⟨w.heap.size, 0, none⟩) := hb4
                      have e65 : a.tmps.getD 65 undef = .bool true := hdep 15 _ _ _ rfl rfl rfl (by kernel_rfl)
                      exact wpOp_plain rfl (by simp [Region.wanted, yielded, got_some e65 (by omega)]) (u := .pointer (some ⟨w.heap.size, 0, none⟩)) (fun ρ hc hf ht => by have f4 := (ht 4).trans e4; clear ht; simp [go_sem, *]) ⟨_, rfl, rfl, Below.refl _ _⟩
                    · as_aux_lemma =>
                      obtain rfl := Option.some.inj ho
                      obtain rfl := Option.some.inj hs
                      have e70 : a.tmps.getD 70 undef = .pointer (some ⟨w.heap.size, 0, none⟩) := hdep 20 _ _ _ rfl rfl rfl (by kernel_rfl)
                      have e65 : a.tmps.getD 65 undef = .bool true := hdep 15 _ _ _ rfl rfl rfl (by kernel_rfl)
                      exact wpOp_plain rfl (by simp [Region.wanted, yielded, got_some e65 (by omega)]) (u := .bool true) (fun ρ hc hf ht => by have f70 := (ht 70).trans e70; clear ht; have q0 := x0; simp [go_sem, *]) ⟨_, rfl, rfl, Below.refl _ _⟩
                    · as_aux_lemma =>
                      obtain rfl := Option.some.inj ho
                      obtain rfl := Option.some.inj hs
                      have e71 : a.tmps.getD 71 undef = .bool true := hdep 21 _ _ _ rfl rfl rfl (by kernel_rfl)
                      have e65 : a.tmps.getD 65 undef = .bool true := hdep 15 _ _ _ rfl rfl rfl (by kernel_rfl)
                      exact wpOp_plain rfl (by simp [Region.wanted, yielded, got_some e65 (by omega)]) (u := .bool false) (fun ρ hc hf ht => by have f71 := (ht 71).trans e71; clear ht; simp [go_sem, *]) ⟨_, rfl, rfl, Below.refl _ _⟩
                    · as_aux_lemma =>
                      obtain rfl := Option.some.inj ho
                      obtain rfl := Option.some.inj hs
                      have e72 : a.tmps.getD 72 undef = .bool false := hdep 22 _ _ _ rfl rfl rfl (by kernel_rfl)
                      have e65 : a.tmps.getD 65 undef = .bool true := hdep 15 _ _ _ rfl rfl rfl (by kernel_rfl)
                      exact wpOp_plain rfl (by simp [Region.wanted, yielded, got_some e65 (by omega)]) (u := .bool false) (fun ρ hc hf ht => by have f72 := (ht 72).trans e72; clear ht; simp [go_sem, *]) ⟨_, rfl, rfl, Below.refl _ _⟩
                    · as_aux_lemma =>
                      obtain rfl := Option.some.inj ho
                      obtain rfl := Option.some.inj hs
                      have e73 : a.tmps.getD 73 undef = .bool false := hdep 23 _ _ _ rfl rfl rfl (by kernel_rfl)
                      exact wpOp_skipped rfl (by simp [Region.wanted, yielded, got_some e73 (by omega)]) ⟨_, rfl, rfl, Below.refl _ _⟩
                    · as_aux_lemma =>
                      obtain rfl := Option.some.inj ho
                      obtain rfl := Option.some.inj hs
                      have e73 : a.tmps.getD 73 undef = .bool false := hdep 23 _ _ _ rfl rfl rfl (by kernel_rfl)
                      exact wpOp_skipped rfl (by simp [Region.wanted, yielded, got_some e73 (by omega)]) ⟨_, rfl, rfl, Below.refl _ _⟩
                    · as_aux_lemma =>
                      obtain rfl := Option.some.inj ho
                      obtain rfl := Option.some.inj hs
                      have e73 : a.tmps.getD 73 undef = .bool false := hdep 23 _ _ _ rfl rfl rfl (by kernel_rfl)
                      exact wpOp_skipped rfl (by simp [Region.wanted, yielded, got_some e73 (by omega)]) ⟨_, rfl, rfl, Below.refl _ _⟩
                    · as_aux_lemma =>
                      obtain rfl := Option.some.inj ho
                      obtain rfl := Option.some.inj hs
                      have e73 : a.tmps.getD 73 undef = .bool false := hdep 23 _ _ _ rfl rfl rfl (by kernel_rfl)
                      have e76 : a.tmps.getD 76 undef = undef := hdep 26 _ _ _ rfl rfl rfl (by kernel_rfl)
                      have e65 : a.tmps.getD 65 undef = .bool true := hdep 15 _ _ _ rfl rfl rfl (by kernel_rfl)
                      exact wpOp_plain rfl (by simp [Region.wanted, yielded, got_some e65 (by omega)]) (u := .bool false) (fun ρ hc hf ht => by have f73 := (ht 73).trans e73; have f76 := (ht 76).trans e76; clear ht; simp [go_sem, *]) ⟨_, rfl, rfl, Below.refl _ _⟩
                    · as_aux_lemma =>
                      obtain rfl := Option.some.inj ho
                      obtain rfl := Option.some.inj hs
                      have e77 : a.tmps.getD 77 undef = .bool false := hdep 27 _ _ _ rfl rfl rfl (by kernel_rfl)
                      have e65 : a.tmps.getD 65 undef = .bool true := hdep 15 _ _ _ rfl rfl rfl (by kernel_rfl)
                      exact wpOp_plain rfl (by simp [Region.wanted, yielded, got_some e65 (by omega)]) (u := .bool false) (fun ρ hc hf ht => by have f77 := (ht 77).trans e77; clear ht; simp [go_sem, *]) ⟨_, rfl, rfl, Below.refl _ _⟩
                    · as_aux_lemma =>
                      obtain rfl := Option.some.inj ho
                      obtain rfl := Option.some.inj hs
                      have e78 : a.tmps.getD 78 undef = .bool false := hdep 28 _ _ _ rfl rfl rfl (by kernel_rfl)
                      exact wpOp_skipped rfl (by simp [Region.wanted, yielded, got_some e78 (by omega)]) ⟨_, rfl, rfl, Below.refl _ _⟩
                    · as_aux_lemma =>
                      obtain rfl := Option.some.inj ho
                      obtain rfl := Option.some.inj hs
                      have e78 : a.tmps.getD 78 undef = .bool false := hdep 28 _ _ _ rfl rfl rfl (by kernel_rfl)
                      exact wpOp_skipped rfl (by simp [Region.wanted, yielded, got_some e78 (by omega)]) ⟨_, rfl, rfl, Below.refl _ _⟩
                    · as_aux_lemma =>
                      obtain rfl := Option.some.inj ho
                      obtain rfl := Option.some.inj hs
                      have e78 : a.tmps.getD 78 undef = .bool false := hdep 28 _ _ _ rfl rfl rfl (by kernel_rfl)
                      exact wpOp_skipped rfl (by simp [Region.wanted, yielded, got_some e78 (by omega)]) ⟨_, rfl, rfl, Below.refl _ _⟩
                    · as_aux_lemma =>
                      obtain rfl := Option.some.inj ho
                      obtain rfl := Option.some.inj hs
                      have e78 : a.tmps.getD 78 undef = .bool false := hdep 28 _ _ _ rfl rfl rfl (by kernel_rfl)
                      have e81 : a.tmps.getD 81 undef = undef := hdep 31 _ _ _ rfl rfl rfl (by kernel_rfl)
                      have e65 : a.tmps.getD 65 undef = .bool true := hdep 15 _ _ _ rfl rfl rfl (by kernel_rfl)
                      exact wpOp_plain rfl (by simp [Region.wanted, yielded, got_some e65 (by omega)]) (u := .bool false) (fun ρ hc hf ht => by have f78 := (ht 78).trans e78; have f81 := (ht 81).trans e81; clear ht; simp [go_sem, *]) ⟨_, rfl, rfl, Below.refl _ _⟩
                    · as_aux_lemma =>
                      obtain rfl := Option.some.inj ho
                      obtain rfl := Option.some.inj hs
                      have e69 : a.tmps.getD 69 undef = .bool false := hdep 19 _ _ _ rfl rfl rfl (by kernel_rfl)
                      have e82 : a.tmps.getD 82 undef = .bool false := hdep 32 _ _ _ rfl rfl rfl (by kernel_rfl)
                      have e65 : a.tmps.getD 65 undef = .bool true := hdep 15 _ _ _ rfl rfl rfl (by kernel_rfl)
                      exact wpOp_plain rfl (by simp [Region.wanted, yielded, got_some e65 (by omega)]) (u := .bool true) (fun ρ hc hf ht => by have f69 := (ht 69).trans e69; have f82 := (ht 82).trans e82; clear ht; simp [go_sem, *]) ⟨_, rfl, rfl, Below.refl _ _⟩
                    · as_aux_lemma =>
                      obtain rfl := Option.some.inj ho
                      obtain rfl := Option.some.inj hs
                      have e65 : a.tmps.getD 65 undef = .bool true := hdep 15 _ _ _ rfl rfl rfl (by kernel_rfl)
                      have e83 : a.tmps.getD 83 undef = .bool true := hdep 33 _ _ _ rfl rfl rfl (by kernel_rfl)
                      exact wpOp_plain rfl rfl (u := .bool true) (fun ρ hc hf ht => by have f65 := (ht 65).trans e65; have f83 := (ht 83).trans e83; clear ht; simp [go_sem, *]) ⟨_, rfl, rfl, Below.refl _ _⟩
                    · as_aux_lemma =>
                      obtain rfl := Option.some.inj ho
                      obtain rfl := Option.some.inj hs
                      have e84 : a.tmps.getD 84 undef = .bool true := hdep 34 _ _ _ rfl rfl rfl (by kernel_rfl)
                      exact wpOp_plain rfl rfl (u := .bool true) (fun ρ hc hf ht => by have f84 := (ht 84).trans e84; clear ht; simp [go_sem, *]) ⟨_, rfl, rfl, Below.refl _ _⟩
                    · as_aux_lemma =>
                      obtain rfl := Option.some.inj ho
                      obtain rfl := Option.some.inj hs
                      have e8 : a.tmps.getD 8 undef = .pointer (some ⟨t, 0, none⟩) := hb8
                      have e85 : a.tmps.getD 85 undef = .bool true := hdep 35 _ _ _ rfl rfl rfl (by kernel_rfl)
                      exact wpOp_plain rfl (by simp [Region.wanted, yielded, got_some e85 (by omega)]) (u := .pointer (some ⟨t, 0, none⟩)) (fun ρ hc hf ht => by have f8 := (ht 8).trans e8; clear ht; simp [go_sem, *]) ⟨_, rfl, rfl, Below.refl _ _⟩
                    · as_aux_lemma =>
                      obtain rfl := Option.some.inj ho
                      obtain rfl := Option.some.inj hs
                      have e4 : a.tmps.getD 4 undef = .pointer (some ⟨w.heap.size, 0, none⟩) := hb4
                      have e85 : a.tmps.getD 85 undef = .bool true := hdep 35 _ _ _ rfl rfl rfl (by kernel_rfl)
                      exact wpOp_plain rfl (by simp [Region.wanted, yielded, got_some e85 (by omega)]) (u := .agg C) (fun ρ hc hf ht => load_row _ rfl ((ht 4).trans e4) K2.out Tryd.underlying49 (by rw [CS.out]; exact info_org)) ⟨_, rfl, rfl, Below.refl _ _⟩
                    · as_aux_lemma =>
                      obtain rfl := Option.some.inj ho
                      obtain rfl := Option.some.inj hs
                      have e4 : a.tmps.getD 4 undef = .pointer (some ⟨w.heap.size, 0, none⟩) := hb4
                      have e85 : a.tmps.getD 85 undef = .bool true := hdep 35 _ _ _ rfl rfl rfl (by kernel_rfl)
                      exact wpOp_plain rfl (by simp [Region.wanted, yielded, got_some e85 (by omega)]) (u := .agg C) (fun ρ hc hf ht => load_row _ rfl ((ht 4).trans e4) K2.out Tryd.underlying49 (by rw [CS.out]; exact info_org)) ⟨_, rfl, rfl, Below.refl _ _⟩
                    · as_aux_lemma =>
                      obtain rfl := Option.some.inj ho
                      obtain rfl := Option.some.inj hs
                      have e86 : a.tmps.getD 86 undef = .pointer (some ⟨t, 0, none⟩) := hdep 36 _ _ _ rfl rfl rfl (by kernel_rfl)
                      have e87 : a.tmps.getD 87 undef = .agg C := hdep 37 _ _ _ rfl rfl rfl (by kernel_rfl)
                      have e88 : a.tmps.getD 88 undef = .agg C := hdep 38 _ _ _ rfl rfl rfl (by kernel_rfl)
                      have e85 : a.tmps.getD 85 undef = .bool true := hdep 35 _ _ _ rfl rfl rfl (by kernel_rfl)
                      refine wpOp_calls (f := 32) (args := #[.pointer (some ⟨t, 0, none⟩), .agg C, .agg C]) rfl (by simp [Region.wanted, yielded, got_some e85 (by omega)]) (fun ρ hc hf ht => by have f86 := (ht 86).trans e86; have f87 := (ht 87).trans e87; have f88 := (ht 88).trans e88; clear ht; simp [go_sem, *]) ?_
                      exact (O4.out w2 hbe).mono fun e w' h => ⟨_, h.1, _, rfl, rfl, h.2⟩
                    · as_aux_lemma =>
                      obtain rfl := Option.some.inj ho
                      obtain rfl := Option.some.inj hs
                      have e4 : a.tmps.getD 4 undef = .pointer (some ⟨w.heap.size, 0, none⟩) := hb4
                      have e85 : a.tmps.getD 85 undef = .bool true := hdep 35 _ _ _ rfl rfl rfl (by kernel_rfl)
                      exact wpOp_plain rfl (by simp [Region.wanted, yielded, got_some e85 (by omega)]) (u := .pointer (some ⟨w.heap.size, 0, none⟩)) (fun ρ hc hf ht => by have f4 := (ht 4).trans e4; clear ht; simp [go_sem, *]) ⟨_, rfl, rfl, Below.refl _ _⟩
                    · as_aux_lemma =>
                      obtain rfl := Option.some.inj ho
                      obtain rfl := Option.some.inj hs
                      have e90 : a.tmps.getD 90 undef = .pointer (some ⟨w.heap.size, 0, none⟩) := hdep 40 _ _ _ rfl rfl rfl (by kernel_rfl)
                      have e85 : a.tmps.getD 85 undef = .bool true := hdep 35 _ _ _ rfl rfl rfl (by kernel_rfl)
                      exact wpOp_plain rfl (by simp [Region.wanted, yielded, got_some e85 (by omega)]) (u := .bool true) (fun ρ hc hf ht => by have f90 := (ht 90).trans e90; clear ht; have q0 := x0; simp [go_sem, *]) ⟨_, rfl, rfl, Below.refl _ _⟩
                    · as_aux_lemma =>
                      obtain rfl := Option.some.inj ho
                      obtain rfl := Option.some.inj hs
                      have e91 : a.tmps.getD 91 undef = .bool true := hdep 41 _ _ _ rfl rfl rfl (by kernel_rfl)
                      have e85 : a.tmps.getD 85 undef = .bool true := hdep 35 _ _ _ rfl rfl rfl (by kernel_rfl)
                      exact wpOp_plain rfl (by simp [Region.wanted, yielded, got_some e85 (by omega)]) (u := .bool false) (fun ρ hc hf ht => by have f91 := (ht 91).trans e91; clear ht; simp [go_sem, *]) ⟨_, rfl, rfl, Below.refl _ _⟩
                    · as_aux_lemma =>
                      obtain rfl := Option.some.inj ho
                      obtain rfl := Option.some.inj hs
                      have e89 : a.tmps.getD 89 undef = .bool false := hdep 39 _ _ _ rfl rfl rfl (by kernel_rfl)
                      have e92 : a.tmps.getD 92 undef = .bool false := hdep 42 _ _ _ rfl rfl rfl (by kernel_rfl)
                      have e85 : a.tmps.getD 85 undef = .bool true := hdep 35 _ _ _ rfl rfl rfl (by kernel_rfl)
                      exact wpOp_plain rfl (by simp [Region.wanted, yielded, got_some e85 (by omega)]) (u := .bool true) (fun ρ hc hf ht => by have f89 := (ht 89).trans e89; have f92 := (ht 92).trans e92; clear ht; simp [go_sem, *]) ⟨_, rfl, rfl, Below.refl _ _⟩
                    · as_aux_lemma =>
                      obtain rfl := Option.some.inj ho
                      obtain rfl := Option.some.inj hs
                      have e85 : a.tmps.getD 85 undef = .bool true := hdep 35 _ _ _ rfl rfl rfl (by kernel_rfl)
                      have e93 : a.tmps.getD 93 undef = .bool true := hdep 43 _ _ _ rfl rfl rfl (by kernel_rfl)
                      exact wpOp_plain rfl rfl (u := .bool true) (fun ρ hc hf ht => by have f85 := (ht 85).trans e85; have f93 := (ht 93).trans e93; clear ht; simp [go_sem, *]) ⟨_, rfl, rfl, Below.refl _ _⟩
                    · as_aux_lemma =>
                      obtain rfl := Option.some.inj ho
                      obtain rfl := Option.some.inj hs
                      have e94 : a.tmps.getD 94 undef = .bool true := hdep 44 _ _ _ rfl rfl rfl (by kernel_rfl)
                      exact wpOp_plain rfl rfl (u := .bool true) (fun ρ hc hf ht => by have f94 := (ht 94).trans e94; clear ht; simp [go_sem, *]) ⟨_, rfl, rfl, Below.refl _ _⟩
                  · intro a w2 hall hdef hbe
                    have er : a.tmps.getD 6 undef = .bool true := hall 45 _ _ _ rfl rfl rfl
                    rename_i Q9 K9 hK9
                    refine hK9 _ _ (wp_ret ?_)
                    refine bodyPost_ret (results_tmp (t := 6) rfl a.tmps _ w2) hdef ?_
                    rw [er]
                    exact ⟨rfl, belowOn Bu8.out Bu8.out.size hbe⟩
            | false =>
              cases cy with
              | true =>
                as_aux_lemma =>
                  go_enter Tryd.func9, Tryd.ntmps9
                  go_wp2_with fail
                  rw [← HW.out]
                  refine (HAW.out W BW.out).mono ?_
                  rintro e u1 ⟨rfl, hb⟩
                  have Ku1 := Lib.hid (KW.out.keep hb)
                  have Ju1 := Lib.hid (JW.out.keep hb)
                  have Bu1 := Lib.hid (belowOn BW.out BW.out.size hb)
                  clear hb BW KW JW
                  go_wp2_with fail
                  refine (F1.out u1 Bu1.out).mono ?_
                  rw [hf1]
                  rintro e w9 ⟨rfl, rfl⟩
                  have z1 := (Ku1.out.cell 3).trans C3.out
                  have lt1 := Ku1.out.lt
                  go_wp2_with fail
                  refine (few17_calls x.h.name u1).mono ?_
                  rintro e u2 ⟨rfl, hb⟩
                  have Ku2 := Lib.hid (Ku1.out.keep hb)
                  have Ju2 := Lib.hid (Ju1.out.keep hb)
                  have Bu2 := Lib.hid (belowOn Bu1.out Bu1.out.size hb)
                  clear hb Bu1 Ku1 Ju1
                  clear z1 lt1
                  rw [decide_eq_true n0]
                  have z1 := (Ju2.out.cell 3).trans D3.out
                  have lt1 := Ju2.out.lt
                  go_wp2_with fail
                  refine (few17_calls y.h.name u2).mono ?_
                  rintro e u3 ⟨rfl, hb⟩
                  have Ku3 := Lib.hid (Ku2.out.keep hb)
                  have Ju3 := Lib.hid (Ju2.out.keep hb)
                  have Bu3 := Lib.hid (belowOn Bu2.out Bu2.out.size hb)
                  clear hb Bu2 Ku2 Ju2
                  clear z1 lt1
                  rw [decide_eq_true n1]
                  have z1 := (Ku3.out.cell 1).trans C1.out
                  have lt1 := Ku3.out.lt
                  go_wp2_with fail
                  refine (few17_calls x.scheme u3).mono ?_
                  rintro e u4 ⟨rfl, hb⟩
                  have Ku4 := Lib.hid (Ku3.out.keep hb)
                  have Ju4 := Lib.hid (Ju3.out.keep hb)
                  have Bu4 := Lib.hid (belowOn Bu3.out Bu3.out.size hb)
                  clear hb Bu3 Ku3 Ju3
                  clear z1 lt1
                  rw [decide_eq_true n2]
                  have z1 := (Ju4.out.cell 1).trans D1.out
                  have lt1 := Ju4.out.lt
                  go_wp2_with fail
                  refine (few17_calls y.scheme u4).mono ?_
                  rintro e u5 ⟨rfl, hb⟩
                  have Ku5 := Lib.hid (Ku4.out.keep hb)
                  have Ju5 := Lib.hid (Ju4.out.keep hb)
                  have Bu5 := Lib.hid (belowOn Bu4.out Bu4.out.size hb)
                  clear hb Bu4 Ku4 Ju4
                  clear z1 lt1
                  rw [decide_eq_true n3]
                  go_wp2_with fail
                  refine (HN.out u5 Bu5.out).mono ?_
                  rintro e u6 ⟨⟨t, a, rfl, ht⟩, hb⟩
                  have Ku6 := Lib.hid (Ku5.out.keep hb)
                  have Ju6 := Lib.hid (Ju5.out.keep hb)
                  have Bu6 := Lib.hid (belowOn Bu5.out Bu5.out.size hb)
                  have Tu6 := Lib.hid ht
                  clear ht
                  clear hb Bu5 Ku5 Ju5
                  have q1 := refof17_calls A c l u6 (HROW.out.keep Bu6.out) (fun x hx => (HOK.out x hx).keep Bu6.out) hlc hcm x HX.out (by omega) (by omega)
                  rw [← CC.out] at q1
                  have R0 := Lib.hid q1
                  clear q1
                  go_wp2_with (with_reducible refine stopG ?_)
                  refine stopS_go ?_
                  refine load_org Ku6.out CS.out (.tmp 4) rfl rfl rfl ?_
                  go_wp2_with fail
                  refine (R0.out).mono ?_
                  rintro e u7 ⟨rfl, hb⟩
                  have Ku7 := Lib.hid (Ku6.out.keep hb)
                  have Ju7 := Lib.hid (Ju6.out.keep hb)
                  have Tu7 := Lib.hid (Tu6.out.keep hb)
                  have Bu7 := Lib.hid (belowOn Bu6.out Bu6.out.size hb)
                  clear hb Bu6 Ku6 Ju6 Tu6
                  have q1 := refof17_calls A c l u7 (HROW.out.keep Bu7.out) (fun x hx => (HOK.out x hx).keep Bu7.out) hlc hcm y HY.out (by omega) (by omega)
                  rw [← DD.out] at q1
                  have R1 := Lib.hid q1
                  clear q1
                  go_wp2_with (with_reducible refine stopG ?_)
                  refine stopS_go ?_
                  refine load_org Ju7.out DS.out (.tmp 5) rfl rfl rfl ?_
                  go_wp2_with fail
                  refine (R1.out).mono ?_
                  rintro e u8 ⟨rfl, hb⟩
                  have Ku8 := Lib.hid (Ku7.out.keep hb)
                  have Ju8 := Lib.hid (Ju7.out.keep hb)
                  have Tu8 := Lib.hid (Tu7.out.keep hb)
                  have Bu8 := Lib.hid (belowOn Bu7.out Bu7.out.size hb)
                  clear hb Bu7 Ku7 Ju7 Tu7
                  have o1 := fun (V : World) (hb : Below u8.heap.size u8 V) => of17_calls (Tu8.out.keep hb) (HF.out _ (belowOn Bu8.out Bu8.out.size hb)) x HX.out (by omega) (by omega)
                  have o2 := fun (V : World) (hb : Below u8.heap.size u8 V) => of17_calls (Tu8.out.keep hb) (HF.out _ (belowOn Bu8.out Bu8.out.size hb)) y HY.out (by omega) (by omega)
                  have o3 := fun (V : World) (hb : Below u8.heap.size u8 V) => same17_calls (Tu8.out.keep hb) (HF.out _ (belowOn Bu8.out Bu8.out.size hb)) x y HX.out HY.out (by omega) (by omega) (by omega) (by omega)
                  have o4 := fun (V : World) (hb : Below u8.heap.size u8 V) => same17_calls (Tu8.out.keep hb) (HF.out _ (belowOn Bu8.out Bu8.out.size hb)) x x HX.out HX.out (by omega) (by omega) (by omega) (by omega)
                  rw [← CC.out] at o1
                  rw [← DD.out] at o2
                  rw [HS1.out, ← CC.out, ← DD.out] at o3
                  rw [HS2.out, ← CC.out] at o4
                  have hcm := HCM.out
                  generalize mkB (siteT (l.map (·.r)) x) = SX at o1 hcm ⊢
                  generalize mkB (siteT (l.map (·.r)) y) = SY at o2 hcm ⊢
                  have O1 := Lib.hid o1
                  have O2 := Lib.hid o2
                  have O3 := Lib.hid o3
                  have O4 := Lib.hid o4
                  have HC := Lib.hid hcm
                  clear o1 o2 o3 o4 hcm
                  go_upto_region 7 with fail
                  clear HAW HF HN HROW HOK HW HX HY C1 C3 D1 D3 Tu8 R0 R1 HS1 HS2 HCM F1
                  refine wp_region_RI [.is (.bool true), .is (.bool true), .is (.pointer (some ⟨t, 0, none⟩)), .is (.agg C), .is (.string SX), .is (.string SX), .is (.bool true), .is (.bool true), .is (.bool true), .is (.pointer (some ⟨t, 0, none⟩)), .is (.agg D), .is (.string SY), .is (.string SY), .is (.bool true), .is (.bool true), .is (.bool true), .is (.pointer (some ⟨t, 0, none⟩)), .is (.agg C), .is (.agg D), .is (.bool false), .is (.pointer (some ⟨w.heap.size, 0, none⟩)), .is (.bool false), .is (.bool true), .is (.bool true), .is (.pointer (some ⟨(w.heap.size + 1), 0, none⟩)), .is (.bool true), .is (.bool false), .is (.bool false), .is (.bool false), .is (undef), .is (undef), .is (undef), .is (.bool false), .is (.bool true), .is (.bool true), .is (.bool true), .is (.pointer (some ⟨t, 0, none⟩)), .is (.agg C), .is (.agg C), .is (.bool true), .is (.pointer (some ⟨w.heap.size, 0, none⟩)), .is (.bool false), .is (.bool true), .is (.bool true), .is (.bool true), .is (.bool true)] (by kernel_rfl) (by kernel_rfl) (by kernel_rfl) ?_ ?_
                  · intro i o sp ho hs a w2 hbe htz hkept hdep
                    have hi : i < 46 := (Array.getElem?_eq_some_iff.1 ho).1
                    have hsz : a.tmps.size = 95 := htz
                    have K2 := Lib.hid (Ku8.out.keep hbe)
                    have J2 := Lib.hid (Ju8.out.keep hbe)
                    have x0 := (K2.out.cell 0).trans C0.out
                    have y0 := (J2.out.cell 0).trans D0.out
                    have lt1 := K2.out.lt
                    have lt2 := J2.out.lt
                    have hb7 : a.tmps.getD 7 undef = .bool true := hkept 7 (noDst_spec (by kernel_rfl))
                    have hb8 : a.tmps.getD 8 undef = .pointer (some ⟨t, 0, none⟩) := hkept 8 (noDst_spec (by kernel_rfl))
                    have hb9 : a.tmps.getD 9 undef = .string SX := hkept 9 (noDst_spec (by kernel_rfl))
                    have hb10 : a.tmps.getD 10 undef = .string SY := hkept 10 (noDst_spec (by kernel_rfl))
                    have hb4 : a.tmps.getD 4 undef = .pointer (some ⟨w.heap.size, 0, none⟩) := hkept 4 (noDst_spec (by kernel_rfl))
                    have hb5 : a.tmps.getD 5 undef = .pointer (some ⟨(w.heap.size + 1), 0, none⟩) := hkept 5 (noDst_spec (by kernel_rfl))
                    rcases (by omega : i = 0 ∨ i = 1 ∨ i = 2 ∨ i = 3 ∨ i = 4 ∨ i = 5 ∨ i = 6 ∨ i = 7 ∨ i = 8 ∨ i = 9 ∨ i = 10 ∨ i = 11 ∨ i = 12 ∨ i = 13 ∨ i = 14 ∨ i = 15 ∨ i = 16 ∨ i = 17 ∨ i = 18 ∨ i = 19 ∨ i = 20 ∨ i = 21 ∨ i = 22 ∨ i = 23 ∨ i = 24 ∨ i = 25 ∨ i = 26 ∨ i = 27 ∨ i = 28 ∨ i = 29 ∨ i = 30 ∨ i = 31 ∨ i = 32 ∨ i = 33 ∨ i = 34 ∨ i = 35 ∨ i = 36 ∨ i = 37 ∨ i = 38 ∨ i = 39 ∨ i = 40 ∨ i = 41 ∨ i = 42 ∨ i = 43 ∨ i = 44 ∨ i = 45) with rfl | rfl | rfl | rfl | rfl | rfl | rfl | rfl | rfl | rfl | rfl | rfl | rfl | rfl | rfl | rfl | rfl | rfl | rfl | rfl | rfl | rfl | rfl | rfl | rfl | rfl | rfl | rfl | rfl | rfl | rfl | rfl | rfl | rfl | rfl | rfl | rfl | rfl | rfl | rfl | rfl | rfl | rfl | rfl | rfl | rfl
                    · as_aux_lemma =>
                      obtain rfl := Option.some.inj ho
                      obtain rfl := Option.some.inj hs
                      have e7 : a.tmps.getD 7 undef = .bool true := hb7
                      exact wpOp_plain rfl rfl (u := .bool true) (fun ρ hc hf ht => by have f7 := (ht 7).trans e7; clear ht; simp [go_sem, *]) ⟨_, rfl, rfl, Below.refl _ _⟩
                    · as_aux_lemma =>
                      obtain rfl := Option.some.inj ho
                      obtain rfl := Option.some.inj hs
                      have e50 : a.tmps.getD 50 undef = .bool true := hdep 0 _ _ _ rfl rfl rfl (by kernel_rfl)
                      exact wpOp_plain rfl rfl (u := .bool true) (fun ρ hc hf ht => by have f50 := (ht 50).trans e50; clear ht; simp [go_sem, *]) ⟨_, rfl, rfl, Below.refl _ _⟩
                    · as_aux_lemma =>
                      obtain rfl := Option.some.inj ho
                      obtain rfl := Option.some.inj hs
                      have e8 : a.tmps.getD 8 undef = .pointer (some ⟨t, 0, none⟩) := hb8
                      have e51 : a.tmps.getD 51 undef = .bool true := hdep 1 _ _ _ rfl rfl rfl (by kernel_rfl)
                      exact wpOp_plain rfl (by simp [Region.wanted, yielded, got_some e51 (by omega)]) (u := .pointer (some ⟨t, 0, none⟩)) (fun ρ hc hf ht => by have f8 := (ht 8).trans e8; clear ht; simp [go_sem, *]) ⟨_, rfl, rfl, Below.refl _ _⟩
                    · as_aux_lemma =>
                      obtain rfl := Option.some.inj ho
                      obtain rfl := Option.some.inj hs
                      have e4 : a.tmps.getD 4 undef = .pointer (some ⟨w.heap.size, 0, none⟩) := hb4
                      have e51 : a.tmps.getD 51 undef = .bool true := hdep 1 _ _ _ rfl rfl rfl (by kernel_rfl)
                      exact wpOp_plain rfl (by simp [Region.wanted, yielded, got_some e51 (by omega)]) (u := .agg C) (fun ρ hc hf ht => load_row _ rfl ((ht 4).trans e4) K2.out Tryd.underlying49 (by rw [CS.out]; exact info_org)) ⟨_, rfl, rfl, Below.refl _ _⟩
                    · as_aux_lemma =>
                      obtain rfl := Option.some.inj ho
                      obtain rfl := Option.some.inj hs
                      have e52 : a.tmps.getD 52 undef = .pointer (some ⟨t, 0, none⟩) := hdep 2 _ _ _ rfl rfl rfl (by kernel_rfl)
                      have e53 : a.tmps.getD 53 undef = .agg C := hdep 3 _ _ _ rfl rfl rfl (by kernel_rfl)
                      have e51 : a.tmps.getD 51 undef = .bool true := hdep 1 _ _ _ rfl rfl rfl (by kernel_rfl)
                      refine wpOp_calls (f := 31) (args := #[.pointer (some ⟨t, 0, none⟩), .agg C]) rfl (by simp [Region.wanted, yielded, got_some e51 (by omega)]) (fun ρ hc hf ht => by have f52 := (ht 52).trans e52; have f53 := (ht 53).trans e53; clear ht; simp [go_sem, *]) ?_
                      exact (O1.out w2 hbe).mono fun e w' h => ⟨_, h.1, _, rfl, rfl, h.2⟩
                    · as_aux_lemma =>
                      obtain rfl := Option.some.inj ho
                      obtain rfl := Option.some.inj hs
                      have e9 : a.tmps.getD 9 undef = .string SX := hb9
                      have e51 : a.tmps.getD 51 undef = .bool true := hdep 1 _ _ _ rfl rfl rfl (by kernel_rfl)
                      exact wpOp_plain rfl (by simp [Region.wanted, yielded, got_some e51 (by omega)]) (u := .string SX) (fun ρ hc hf ht => by have f9 := (ht 9).trans e9; clear ht; simp [go_sem, *]) ⟨_, rfl, rfl, Below.refl _ _⟩
                    · as_aux_lemma =>
                      obtain rfl := Option.some.inj ho
                      obtain rfl := Option.some.inj hs
                      have e54 : a.tmps.getD 54 undef = .string SX := hdep 4 _ _ _ rfl rfl rfl (by kernel_rfl)
                      have e55 : a.tmps.getD 55 undef = .string SX := hdep 5 _ _ _ rfl rfl rfl (by kernel_rfl)
                      have e51 : a.tmps.getD 51 undef = .bool true := hdep 1 _ _ _ rfl rfl rfl (by kernel_rfl)
                      exact wpOp_plain rfl (by simp [Region.wanted, yielded, got_some e51 (by omega)]) (u := .bool true) (fun ρ hc hf ht => by have f54 := (ht 54).trans e54; have f55 := (ht 55).trans e55; clear ht; simp [go_sem, *]) ⟨_, rfl, rfl, Below.refl _ _⟩
                    · as_aux_lemma =>
                      obtain rfl := Option.some.inj ho
                      obtain rfl := Option.some.inj hs
                      have e51 : a.tmps.getD 51 undef = .bool true := hdep 1 _ _ _ rfl rfl rfl (by kernel_rfl)
                      have e56 : a.tmps.getD 56 undef = .bool true := hdep 6 _ _ _ rfl rfl rfl (by kernel_rfl)
                      exact wpOp_plain rfl rfl (u := .bool true) (fun ρ hc hf ht => by have f51 := (ht 51).trans e51; have f56 := (ht 56).trans e56; clear ht; simp [go_sem, *]) ⟨_, rfl, rfl, Below.refl _ _⟩
                    · as_aux_lemma =>
                      obtain rfl := Option.some.inj ho
                      obtain rfl := Option.some.inj hs
                      have e57 : a.tmps.getD 57 undef = .bool true := hdep 7 _ _ _ rfl rfl rfl (by kernel_rfl)
                      exact wpOp_plain rfl rfl (u := .bool true) (fun ρ hc hf ht => by have f57 := (ht 57).trans e57; clear ht; simp [go_sem, *]) ⟨_, rfl, rfl, Below.refl _ _⟩
                    · as_aux_lemma =>
                      obtain rfl := Option.some.inj ho
                      obtain rfl := Option.some.inj hs
                      have e8 : a.tmps.getD 8 undef = .pointer (some ⟨t, 0, none⟩) := hb8
                      have e58 : a.tmps.getD 58 undef = .bool true := hdep 8 _ _ _ rfl rfl rfl (by kernel_rfl)
                      exact wpOp_plain rfl (by simp [Region.wanted, yielded, got_some e58 (by omega)]) (u := .pointer (some ⟨t, 0, none⟩)) (fun ρ hc hf ht => by have f8 := (ht 8).trans e8; clear ht; simp [go_sem, *]) ⟨_, rfl, rfl, Below.refl _ _⟩
                    · as_aux_lemma =>
                      obtain rfl := Option.some.inj ho
                      obtain rfl := Option.some.inj hs
                      have e5 : a.tmps.getD 5 undef = .pointer (some ⟨(w.heap.size + 1), 0, none⟩) := hb5
                      have e58 : a.tmps.getD 58 undef = .bool true := hdep 8 _ _ _ rfl rfl rfl (by kernel_rfl)
                      exact wpOp_plain rfl (by simp [Region.wanted, yielded, got_some e58 (by omega)]) (u := .agg D) (fun ρ hc hf ht => load_row _ rfl ((ht 5).trans e5) J2.out Tryd.underlying49 (by rw [DS.out]; exact info_org)) ⟨_, rfl, rfl, Below.refl _ _⟩
                    · as_aux_lemma =>
                      obtain rfl := Option.some.inj ho
                      obtain rfl := Option.some.inj hs
                      have e59 : a.tmps.getD 59 undef = .pointer (some ⟨t, 0, none⟩) := hdep 9 _ _ _ rfl rfl rfl (by kernel_rfl)
                      have e60 : a.tmps.getD 60 undef = .agg D := hdep 10 _ _ _ rfl rfl rfl (by kernel_rfl)
                      have e58 : a.tmps.getD 58 undef = .bool true := hdep 8 _ _ _ rfl rfl rfl (by kernel_rfl)
                      refine wpOp_calls (f := 31) (args := #[.pointer (some ⟨t, 0, none⟩), .agg D]) rfl (by simp [Region.wanted, yielded, got_some e58 (by omega)]) (fun ρ hc hf ht => by have f59 := (ht 59).trans e59; have f60 := (ht 60).trans e60; clear ht; simp [go_sem, *]) ?_
                      exact (O2.out w2 hbe).mono fun e w' h => ⟨_, h.1, _, rfl, rfl, h.2⟩
                    · as_aux_lemma =>
                      obtain rfl := Option.some.inj ho
                      obtain rfl := Option.some.inj hs
                      have e10 : a.tmps.getD 10 undef = .string SY := hb10
                      have e58 : a.tmps.getD 58 undef = .bool true := hdep 8 _ _ _ rfl rfl rfl (by kernel_rfl)
                      exact wpOp_plain rfl (by simp [Region.wanted, yielded, got_some e58 (by omega)]) (u := .string SY) (fun ρ hc hf ht => by have f10 := (ht 10).trans e10; clear ht; simp [go_sem, *]) ⟨_, rfl, rfl, Below.refl _ _⟩
                    · as_aux_lemma =>
                      obtain rfl := Option.some.inj ho
                      obtain rfl := Option.some.inj hs
                      have e61 : a.tmps.getD 61 undef = .string SY := hdep 11 _ _ _ rfl rfl rfl (by kernel_rfl)
                      have e62 : a.tmps.getD 62 undef = .string SY := hdep 12 _ _ _ rfl rfl rfl (by kernel_rfl)
                      have e58 : a.tmps.getD 58 undef = .bool true := hdep 8 _ _ _ rfl rfl rfl (by kernel_rfl)
                      exact wpOp_plain rfl (by simp [Region.wanted, yielded, got_some e58 (by omega)]) (u := .bool true) (fun ρ hc hf ht => by have f61 := (ht 61).trans e61; have f62 := (ht 62).trans e62; clear ht; simp [go_sem, *]) ⟨_, rfl, rfl, Below.refl _ _⟩
                    · as_aux_lemma =>
                      obtain rfl := Option.some.inj ho
                      obtain rfl := Option.some.inj hs
                      have e58 : a.tmps.getD 58 undef = .bool true := hdep 8 _ _ _ rfl rfl rfl (by kernel_rfl)
                      have e63 : a.tmps.getD 63 undef = .bool true := hdep 13 _ _ _ rfl rfl rfl (by kernel_rfl)
                      exact wpOp_plain rfl rfl (u := .bool true) (fun ρ hc hf ht => by have f58 := (ht 58).trans e58; have f63 := (ht 63).trans e63; clear ht; simp [go_sem, *]) ⟨_, rfl, rfl, Below.refl _ _⟩
                    · as_aux_lemma =>
                      obtain rfl := Option.some.inj ho
                      obtain rfl := Option.some.inj hs
                      have e64 : a.tmps.getD 64 undef = .bool true := hdep 14 _ _ _ rfl rfl rfl (by kernel_rfl)
                      exact wpOp_plain rfl rfl (u := .bool true) (fun ρ hc hf ht => by have f64 := (ht 64).trans e64; clear ht; simp [go_sem, *]) ⟨_, rfl, rfl, Below.refl _ _⟩
                    · as_aux_lemma =>
                      obtain rfl := Option.some.inj ho
                      obtain rfl := Option.some.inj hs
                      have e8 : a.tmps.getD 8 undef = .pointer (some ⟨t, 0, none⟩) := hb8
                      have e65 : a.tmps.getD 65 undef = .bool true := hdep 15 _ _ _ rfl rfl rfl (by kernel_rfl)
                      exact wpOp_plain rfl (by simp [Region.wanted, yielded, got_some e65 (by omega)]) (u := .pointer (some ⟨t, 0, none⟩)) (fun ρ hc hf ht => by have f8 := (ht 8).trans e8; clear ht; simp [go_sem, *]) ⟨_, rfl, rfl, Below.refl _ _⟩
                    · as_aux_lemma =>
                      obtain rfl := Option.some.inj ho
                      obtain rfl := Option.some.inj hs
                      have e4 : a.tmps.getD 4 undef = .pointer (some ⟨w.heap.size, 0, none⟩) := hb4
                      have e65 : a.tmps.getD 65 undef = .bool true := hdep 15 _ _ _ rfl rfl rfl (by kernel_rfl)
                      exact wpOp_plain rfl (by simp [Region.wanted, yielded, got_some e65 (by omega)]) (u := .agg C) (fun ρ hc hf ht => load_row _ rfl ((ht 4).trans e4) K2.out Tryd.underlying49 (by rw [CS.out]; exact info_org)) ⟨_, rfl, rfl, Below.refl _ _⟩
                    · as_aux_lemma =>
                      obtain rfl := Option.some.inj ho
                      obtain rfl := Option.some.inj hs
                      have e5 : a.tmps.getD 5 undef = .pointer (some ⟨(w.heap.size + 1), 0, none⟩) := hb5
                      have e65 : a.tmps.getD 65 undef = .bool true := hdep 15 _ _ _ rfl rfl rfl (by kernel_rfl)
                      exact wpOp_plain rfl (by simp [Region.wanted, yielded, got_some e65 (by omega)]) (u := .agg D) (fun ρ hc hf ht => load_row _ rfl ((ht 5).trans e5) J2.out Tryd.underlying49 (by rw [DS.out]; exact info_org)) ⟨_, rfl, rfl, Below.refl _ _⟩
                    · as_aux_lemma =>
                      obtain rfl := Option.some.inj ho
                      obtain rfl := Option.some.inj hs
                      have e66 : a.tmps.getD 66 undef = .pointer (some ⟨t, 0, none⟩) := hdep 16 _ _ _ rfl rfl rfl (by kernel_rfl)
                      have e67 : a.tmps.getD 67 undef = .agg C := hdep 17 _ _ _ rfl rfl rfl (by kernel_rfl)
                      have e68 : a.tmps.getD 68 undef = .agg D := hdep 18 _ _ _ rfl rfl rfl (by kernel_rfl)
                      have e65 : a.tmps.getD 65 undef = .bool true := hdep 15 _ _ _ rfl rfl rfl (by kernel_rfl)
                      refine wpOp_calls (f := 32) (args := #[.pointer (some ⟨t, 0, none⟩), .agg C, .agg D]) rfl (by simp [Region.wanted, yielded, got_some e65 (by omega)]) (fun ρ hc hf ht => by have f66 := (ht 66).trans e66; have f67 := (ht 67).trans e67; have f68 := (ht 68).trans e68; clear ht; simp [go_sem, *]) ?_
                      exact (O3.out w2 hbe).mono fun e w' h => ⟨_, h.1, _, rfl, rfl, h.2⟩
                    · as_aux_lemma =>
                      obtain rfl := Option.some.inj ho
                      obtain rfl := Option.some.inj hs
                      have e4 : a.tmps.getD 4 undef = .pointer (some ⟨w.heap.size, 0, none⟩) := hb4
                      have e65 : a.tmps.getD 65 undef = .bool true := hdep 15 _ _ _ rfl rfl rfl (by kernel_rfl)
                      exact wpOp_plain rfl (by simp [Region.wanted, yielded, got_some e65 (by omega)]) (u := .pointer (some ⟨w.heap.size, 0, none⟩)) (fun ρ hc hf ht => by have f4 := (ht 4).trans e4; clear ht; simp [go_sem, *]) ⟨_, rfl, rfl, Below.refl _ _⟩
                    · as_aux_lemma =>
                      obtain rfl := Option.some.inj ho
                      obtain rfl := Option.some.inj hs
                      have e70 : a.tmps.getD 70 undef = .pointer (some ⟨w.heap.size, 0, none⟩) := hdep 20 _ _ _ rfl rfl rfl (by kernel_rfl)
                      have e65 : a.tmps.getD 65 undef = .bool true := hdep 15 _ _ _ rfl rfl rfl (by kernel_rfl)
                      exact wpOp_plain rfl (by simp [Region.wanted, yielded, got_some e65 (by omega)]) (u := .bool false) (fun ρ hc hf ht => by have f70 := (ht 70).trans e70; clear ht; have q0 := x0; simp [go_sem, *]) ⟨_, rfl, rfl, Below.refl _ _⟩
                    · as_aux_lemma =>
                      obtain rfl := Option.some.inj ho
                      obtain rfl := Option.some.inj hs
                      have e71 : a.tmps.getD 71 undef = .bool false := hdep 21 _ _ _ rfl rfl rfl (by kernel_rfl)
                      have e65 : a.tmps.getD 65 undef = .bool true := hdep 15 _ _ _ rfl rfl rfl (by kernel_rfl)
                      exact wpOp_plain rfl (by simp [Region.wanted, yielded, got_some e65 (by omega)]) (u := .bool true) (fun ρ hc hf ht => by have f71 := (ht 71).trans e71; clear ht; simp [go_sem, *]) ⟨_, rfl, rfl, Below.refl _ _⟩
                    · as_aux_lemma =>
                      obtain rfl := Option.some.inj ho
                      obtain rfl := Option.some.inj hs
                      have e72 : a.tmps.getD 72 undef = .bool true := hdep 22 _ _ _ rfl rfl rfl (by kernel_rfl)
                      have e65 : a.tmps.getD 65 undef = .bool true := hdep 15 _ _ _ rfl rfl rfl (by kernel_rfl)
                      exact wpOp_plain rfl (by simp [Region.wanted, yielded, got_some e65 (by omega)]) (u := .bool true) (fun ρ hc hf ht => by have f72 := (ht 72).trans e72; clear ht; simp [go_sem, *]) ⟨_, rfl, rfl, Below.refl _ _⟩
                    · as_aux_lemma =>
                      obtain rfl := Option.some.inj ho
                      obtain rfl := Option.some.inj hs
                      have e5 : a.tmps.getD 5 undef = .pointer (some ⟨(w.heap.size + 1), 0, none⟩) := hb5
                      have e73 : a.tmps.getD 73 undef = .bool true := hdep 23 _ _ _ rfl rfl rfl (by kernel_rfl)
                      exact wpOp_plain rfl (by simp [Region.wanted, yielded, got_some e73 (by omega)]) (u := .pointer (some ⟨(w.heap.size + 1), 0, none⟩)) (fun ρ hc hf ht => by have f5 := (ht 5).trans e5; clear ht; simp [go_sem, *]) ⟨_, rfl, rfl, Below.refl _ _⟩
                    · as_aux_lemma =>
                      obtain rfl := Option.some.inj ho
                      obtain rfl := Option.some.inj hs
                      have e74 : a.tmps.getD 74 undef = .pointer (some ⟨(w.heap.size + 1), 0, none⟩) := hdep 24 _ _ _ rfl rfl rfl (by kernel_rfl)
                      have e73 : a.tmps.getD 73 undef = .bool true := hdep 23 _ _ _ rfl rfl rfl (by kernel_rfl)
                      exact wpOp_plain rfl (by simp [Region.wanted, yielded, got_some e73 (by omega)]) (u := .bool true) (fun ρ hc hf ht => by have f74 := (ht 74).trans e74; clear ht; have q0 := y0; simp [go_sem, *]) ⟨_, rfl, rfl, Below.refl _ _⟩
                    · as_aux_lemma =>
                      obtain rfl := Option.some.inj ho
                      obtain rfl := Option.some.inj hs
                      have e75 : a.tmps.getD 75 undef = .bool true := hdep 25 _ _ _ rfl rfl rfl (by kernel_rfl)
                      have e73 : a.tmps.getD 73 undef = .bool true := hdep 23 _ _ _ rfl rfl rfl (by kernel_rfl)
                      exact wpOp_plain rfl (by simp [Region.wanted, yielded, got_some e73 (by omega)]) (u := .bool false) (fun ρ hc hf ht => by have f75 := (ht 75).trans e75; clear ht; simp [go_sem, *]) ⟨_, rfl, rfl, Below.refl _ _⟩
                    · as_aux_lemma =>
                      obtain rfl := Option.some.inj ho
                      obtain rfl := Option.some.inj hs
                      have e73 : a.tmps.getD 73 undef = .bool true := hdep 23 _ _ _ rfl rfl rfl (by kernel_rfl)
                      have e76 : a.tmps.getD 76 undef = .bool false := hdep 26 _ _ _ rfl rfl rfl (by kernel_rfl)
                      have e65 : a.tmps.getD 65 undef = .bool true := hdep 15 _ _ _ rfl rfl rfl (by kernel_rfl)
                      exact wpOp_plain rfl (by simp [Region.wanted, yielded, got_some e65 (by omega)]) (u := .bool false) (fun ρ hc hf ht => by have f73 := (ht 73).trans e73; have f76 := (ht 76).trans e76; clear ht; simp [go_sem, *]) ⟨_, rfl, rfl, Below.refl _ _⟩
                    · as_aux_lemma =>
                      obtain rfl := Option.some.inj ho
                      obtain rfl := Option.some.inj hs
                      have e77 : a.tmps.getD 77 undef = .bool false := hdep 27 _ _ _ rfl rfl rfl (by kernel_rfl)
                      have e65 : a.tmps.getD 65 undef = .bool true := hdep 15 _ _ _ rfl rfl rfl (by kernel_rfl)
                      exact wpOp_plain rfl (by simp [Region.wanted, yielded, got_some e65 (by omega)]) (u := .bool false) (fun ρ hc hf ht => by have f77 := (ht 77).trans e77; clear ht; simp [go_sem, *]) ⟨_, rfl, rfl, Below.refl _ _⟩
                    · as_aux_lemma =>
                      obtain rfl := Option.some.inj ho
                      obtain rfl := Option.some.inj hs
                      have e78 : a.tmps.getD 78 undef = .bool false := hdep 28 _ _ _ rfl rfl rfl (by kernel_rfl)
                      exact wpOp_skipped rfl (by simp [Region.wanted, yielded, got_some e78 (by omega)]) ⟨_, rfl, rfl, Below.refl _ _⟩
                    · as_aux_lemma =>
                      obtain rfl := Option.some.inj ho
                      obtain rfl := Option.some.inj hs
                      have e78 : a.tmps.getD 78 undef = .bool false := hdep 28 _ _ _ rfl rfl rfl (by kernel_rfl)
                      exact wpOp_skipped rfl (by simp [Region.wanted, yielded, got_some e78 (by omega)]) ⟨_, rfl, rfl, Below.refl _ _⟩
                    · as_aux_lemma =>
                      obtain rfl := Option.some.inj ho
                      obtain rfl := Option.some.inj hs
                      have e78 : a.tmps.getD 78 undef = .bool false := hdep 28 _ _ _ rfl rfl rfl (by kernel_rfl)
                      exact wpOp_skipped rfl (by simp [Region.wanted, yielded, got_some e78 (by omega)]) ⟨_, rfl, rfl, Below.refl _ _⟩
                    · as_aux_lemma =>
                      obtain rfl := Option.some.inj ho
                      obtain rfl := Option.some.inj hs
                      have e78 : a.tmps.getD 78 undef = .bool false := hdep 28 _ _ _ rfl rfl rfl (by kernel_rfl)
                      have e81 : a.tmps.getD 81 undef = undef := hdep 31 _ _ _ rfl rfl rfl (by kernel_rfl)
                      have e65 : a.tmps.getD 65 undef = .bool true := hdep 15 _ _ _ rfl rfl rfl (by kernel_rfl)
                      exact wpOp_plain rfl (by simp [Region.wanted, yielded, got_some e65 (by omega)]) (u := .bool false) (fun ρ hc hf ht => by have f78 := (ht 78).trans e78; have f81 := (ht 81).trans e81; clear ht; simp [go_sem, *]) ⟨_, rfl, rfl, Below.refl _ _⟩
                    · as_aux_lemma =>
                      obtain rfl := Option.some.inj ho
                      obtain rfl := Option.some.inj hs
                      have e69 : a.tmps.getD 69 undef = .bool false := hdep 19 _ _ _ rfl rfl rfl (by kernel_rfl)
                      have e82 : a.tmps.getD 82 undef = .bool false := hdep 32 _ _ _ rfl rfl rfl (by kernel_rfl)
                      have e65 : a.tmps.getD 65 undef = .bool true := hdep 15 _ _ _ rfl rfl rfl (by kernel_rfl)
                      exact wpOp_plain rfl (by simp [Region.wanted, yielded, got_some e65 (by omega)]) (u := .bool true) (fun ρ hc hf ht => by have f69 := (ht 69).trans e69; have f82 := (ht 82).trans e82; clear ht; simp [go_sem, *]) ⟨_, rfl, rfl, Below.refl _ _⟩
                    · as_aux_lemma =>
                      obtain rfl := Option.some.inj ho
                      obtain rfl := Option.some.inj hs
                      have e65 : a.tmps.getD 65 undef = .bool true := hdep 15 _ _ _ rfl rfl rfl (by kernel_rfl)
                      have e83 : a.tmps.getD 83 undef = .bool true := hdep 33 _ _ _ rfl rfl rfl (by kernel_rfl)
                      exact wpOp_plain rfl rfl (u := .bool true) (fun ρ hc hf ht => by have f65 := (ht 65).trans e65; have f83 := (ht 83).trans e83; clear ht; simp [go_sem, *]) ⟨_, rfl, rfl, Below.refl _ _⟩
                    · as_aux_lemma =>
                      obtain rfl := Option.some.inj ho
                      obtain rfl := Option.some.inj hs
                      have e84 : a.tmps.getD 84 undef = .bool true := hdep 34 _ _ _ rfl rfl rfl (by kernel_rfl)
                      exact wpOp_plain rfl rfl (u := .bool true) (fun ρ hc hf ht => by have f84 := (ht 84).trans e84; clear ht; simp [go_sem, *]) ⟨_, rfl, rfl, Below.refl _ _⟩
                    · as_aux_lemma =>
                      obtain rfl := Option.some.inj ho
                      obtain rfl := Option.some.inj hs
                      have e8 : a.tmps.getD 8 undef = .pointer (some ⟨t, 0, none⟩) := hb8
                      have e85 : a.tmps.getD 85 undef = .bool true := hdep 35 _ _ _ rfl rfl rfl (by kernel_rfl)
                      exact wpOp_plain rfl (by simp [Region.wanted, yielded, got_some e85 (by omega)]) (u := .pointer (some ⟨t, 0, none⟩)) (fun ρ hc hf ht => by have f8 := (ht 8).trans e8; clear ht; simp [go_sem, *]) ⟨_, rfl, rfl, Below.refl _ _⟩
                    · as_aux_lemma =>
                      obtain rfl := Option.some.inj ho
                      obtain rfl := Option.some.inj hs
                      have e4 : a.tmps.getD 4 undef = .pointer (some ⟨w.heap.size, 0, none⟩) := hb4
                      have e85 : a.tmps.getD 85 undef = .bool true := hdep 35 _ _ _ rfl rfl rfl (by kernel_rfl)
                      exact wpOp_plain rfl (by simp [Region.wanted, yielded, got_some e85 (by omega)]) (u := .agg C) (fun ρ hc hf ht => load_row _ rfl ((ht 4).trans e4) K2.out Tryd.underlying49 (by rw [CS.out]; exact info_org)) ⟨_, rfl, rfl, Below.refl _ _⟩
                    · as_aux_lemma =>
                      obtain rfl := Option.some.inj ho
                      obtain rfl := Option.some.inj hs
                      have e4 : a.tmps.getD 4 undef = .pointer (some ⟨w.heap.size, 0, none⟩) := hb4
                      have e85 : a.tmps.getD 85 undef = .bool true := hdep 35 _ _ _ rfl rfl rfl (by kernel_rfl)
                      exact wpOp_plain rfl (by simp [Region.wanted, yielded, got_some e85 (by omega)]) (u := .agg C) (fun ρ hc hf ht => load_row _ rfl ((ht 4).trans e4) K2.out Tryd.underlying49 (by rw [CS.out]; exact info_org)) ⟨_, rfl, rfl, Below.refl _ _⟩
                    · as_aux_lemma =>
                      obtain rfl := Option.some.inj ho
                      obtain rfl := Option.some.inj hs
                      have e86 : a.tmps.getD 86 undef = .pointer (some ⟨t, 0, none⟩) := hdep 36 _ _ _ rfl rfl rfl (by kernel_rfl)
                      have e87 : a.tmps.getD 87 undef = .agg C := hdep 37 _ _ _ rfl rfl rfl (by kernel_rfl)
                      have e88 : a.tmps.getD 88 undef = .agg C := hdep 38 _ _ _ rfl rfl rfl (by kernel_rfl)
                      have e85 : a.tmps.getD 85 undef = .bool true := hdep 35 _ _ _ rfl rfl rfl (by kernel_rfl)
                      refine wpOp_calls (f := 32) (args := #[.pointer (some ⟨t, 0, none⟩), .agg C, .agg C]) rfl (by simp [Region.wanted, yielded, got_some e85 (by omega)]) (fun ρ hc hf ht => by have f86 := (ht 86).trans e86; have f87 := (ht 87).trans e87; have f88 := (ht 88).trans e88; clear ht; simp [go_sem, *]) ?_
                      exact (O4.out w2 hbe).mono fun e w' h => ⟨_, h.1, _, rfl, rfl, h.2⟩
                    · as_aux_lemma =>
                      obtain rfl := Option.some.inj ho
                      obtain rfl := Option.some.inj hs
                      have e4 : a.tmps.getD 4 undef = .pointer (some ⟨w.heap.size, 0, none⟩) := hb4
                      have e85 : a.tmps.getD 85 undef = .bool true := hdep 35 _ _ _ rfl rfl rfl (by kernel_rfl)
                      exact wpOp_plain rfl (by simp [Region.wanted, yielded, got_some e85 (by omega)]) (u := .pointer (some ⟨w.heap.size, 0, none⟩)) (fun ρ hc hf ht => by have f4 := (ht 4).trans e4; clear ht; simp [go_sem, *]) ⟨_, rfl, rfl, Below.refl _ _⟩
                    · as_aux_lemma =>
                      obtain rfl := Option.some.inj ho
                      obtain rfl := Option.some.inj hs
                      have e90 : a.tmps.getD 90 undef = .pointer (some ⟨w.heap.size, 0, none⟩) := hdep 40 _ _ _ rfl rfl rfl (by kernel_rfl)
                      have e85 : a.tmps.getD 85 undef = .bool true := hdep 35 _ _ _ rfl rfl rfl (by kernel_rfl)
                      exact wpOp_plain rfl (by simp [Region.wanted, yielded, got_some e85 (by omega)]) (u := .bool false) (fun ρ hc hf ht => by have f90 := (ht 90).trans e90; clear ht; have q0 := x0; simp [go_sem, *]) ⟨_, rfl, rfl, Below.refl _ _⟩
                    · as_aux_lemma =>
                      obtain rfl := Option.some.inj ho
                      obtain rfl := Option.some.inj hs
                      have e91 : a.tmps.getD 91 undef = .bool false := hdep 41 _ _ _ rfl rfl rfl (by kernel_rfl)
                      have e85 : a.tmps.getD 85 undef = .bool true := hdep 35 _ _ _ rfl rfl rfl (by kernel_rfl)
                      exact wpOp_plain rfl (by simp [Region.wanted, yielded, got_some e85 (by omega)]) (u := .bool true) (fun ρ hc hf ht => by have f91 := (ht 91).trans e91; clear ht; simp [go_sem, *]) ⟨_, rfl, rfl, Below.refl _ _⟩
                    · as_aux_lemma =>
                      obtain rfl := Option.some.inj ho
                      obtain rfl := Option.some.inj hs
                      have e89 : a.tmps.getD 89 undef = .bool true := hdep 39 _ _ _ rfl rfl rfl (by kernel_rfl)
                      have e92 : a.tmps.getD 92 undef = .bool true := hdep 42 _ _ _ rfl rfl rfl (by kernel_rfl)
                      have e85 : a.tmps.getD 85 undef = .bool true := hdep 35 _ _ _ rfl rfl rfl (by kernel_rfl)
                      exact wpOp_plain rfl (by simp [Region.wanted, yielded, got_some e85 (by omega)]) (u := .bool true) (fun ρ hc hf ht => by have f89 := (ht 89).trans e89; have f92 := (ht 92).trans e92; clear ht; simp [go_sem, *]) ⟨_, rfl, rfl, Below.refl _ _⟩
                    · as_aux_lemma =>
                      obtain rfl := Option.some.inj ho
                      obtain rfl := Option.some.inj hs
                      have e85 : a.tmps.getD 85 undef = .bool true := hdep 35 _ _ _ rfl rfl rfl (by kernel_rfl)
                      have e93 : a.tmps.getD 93 undef = .bool true := hdep 43 _ _ _ rfl rfl rfl (by kernel_rfl)
                      exact wpOp_plain rfl rfl (u := .bool true) (fun ρ hc hf ht => by have f85 := (ht 85).trans e85; have f93 := (ht 93).trans e93; clear ht; simp [go_sem, *]) ⟨_, rfl, rfl, Below.refl _ _⟩
                    · as_aux_lemma =>
                      obtain rfl := Option.some.inj ho
                      obtain rfl := Option.some.inj hs
                      have e94 : a.tmps.getD 94 undef = .bool true := hdep 44 _ _ _ rfl rfl rfl (by kernel_rfl)
                      exact wpOp_plain rfl rfl (u := .bool true) (fun ρ hc hf ht => by have f94 := (ht 94).trans e94; clear ht; simp [go_sem, *]) ⟨_, rfl, rfl, Below.refl _ _⟩
                  · intro a w2 hall hdef hbe
                    have er : a.tmps.getD 6 undef = .bool true := hall 45 _ _ _ rfl rfl rfl
                    rename_i Q9 K9 hK9
                    refine hK9 _ _ (wp_ret ?_)
                    refine bodyPost_ret (results_tmp (t := 6) rfl a.tmps _ w2) hdef ?_
                    rw [er]
                    exact ⟨rfl, belowOn Bu8.out Bu8.out.size hbe⟩
              | false =>
                cases q with
                | true =>
                  as_aux_lemma =>
                    go_enter Tryd.func9, Tryd.ntmps9
                    go_wp2_with fail
                    rw [← HW.out]
                    refine (HAW.out W BW.out).mono ?_
                    rintro e u1 ⟨rfl, hb⟩
                    have Ku1 := Lib.hid (KW.out.keep hb)
                    have Ju1 := Lib.hid (JW.out.keep hb)
                    have Bu1 := Lib.hid (belowOn BW.out BW.out.size hb)
                    clear hb BW KW JW
                    go_wp2_with fail
                    refine (F1.out u1 Bu1.out).mono ?_
                    rw [hf1]
                    rintro e w9 ⟨rfl, rfl⟩
                    have z1 := (Ku1.out.cell 3).trans C3.out
                    have lt1 := Ku1.out.lt
                    go_wp2_with fail
                    refine (few17_calls x.h.name u1).mono ?_
                    rintro e u2 ⟨rfl, hb⟩
                    have Ku2 := Lib.hid (Ku1.out.keep hb)
                    have Ju2 := Lib.hid (Ju1.out.keep hb)
                    have Bu2 := Lib.hid (belowOn Bu1.out Bu1.out.size hb)
                    clear hb Bu1 Ku1 Ju1
                    clear z1 lt1
                    rw [decide_eq_true n0]
                    have z1 := (Ju2.out.cell 3).trans D3.out
                    have lt1 := Ju2.out.lt
                    go_wp2_with fail
                    refine (few17_calls y.h.name u2).mono ?_
                    rintro e u3 ⟨rfl, hb⟩
                    have Ku3 := Lib.hid (Ku2.out.keep hb)
                    have Ju3 := Lib.hid (Ju2.out.keep hb)
                    have Bu3 := Lib.hid (belowOn Bu2.out Bu2.out.size hb)
                    clear hb Bu2 Ku2 Ju2
                    clear z1 lt1
                    rw [decide_eq_true n1]
                    have z1 := (Ku3.out.cell 1).trans C1.out
                    have lt1 := Ku3.out.lt
                    go_wp2_with fail
                    refine (few17_calls x.scheme u3).mono ?_
                    rintro e u4 ⟨rfl, hb⟩
                    have Ku4 := Lib.hid (Ku3.out.keep hb)
                    have Ju4 := Lib.hid (Ju3.out.keep hb)
                    have Bu4 := Lib.hid (belowOn Bu3.out Bu3.out.size hb)
                    clear hb Bu3 Ku3 Ju3
                    clear z1 lt1
                    rw [decide_eq_true n2]
                    have z1 := (Ju4.out.cell 1).trans D1.out
                    have lt1 := Ju4.out.lt
                    go_wp2_with fail
                    refine (few17_calls y.scheme u4).mono ?_
                    rintro e u5 ⟨rfl, hb⟩
                    have Ku5 := Lib.hid (Ku4.out.keep hb)
                    have Ju5 := Lib.hid (Ju4.out.keep hb)
                    have Bu5 := Lib.hid (belowOn Bu4.out Bu4.out.size hb)
                    clear hb Bu4 Ku4 Ju4
                    clear z1 lt1
                    rw [decide_eq_true n3]
                    go_wp2_with fail
                    refine (HN.out u5 Bu5.out).mono ?_
                    rintro e u6 ⟨⟨t, a, rfl, ht⟩, hb⟩
                    have Ku6 := Lib.hid (Ku5.out.keep hb)
                    have Ju6 := Lib.hid (Ju5.out.keep hb)
                    have Bu6 := Lib.hid (belowOn Bu5.out Bu5.out.size hb)
                    have Tu6 := Lib.hid ht
                    clear ht
                    clear hb Bu5 Ku5 Ju5
                    have q1 := refof17_calls A c l u6 (HROW.out.keep Bu6.out) (fun x hx => (HOK.out x hx).keep Bu6.out) hlc hcm x HX.out (by omega) (by omega)
                    rw [← CC.out] at q1
                    have R0 := Lib.hid q1
                    clear q1
                    go_wp2_with (with_reducible refine stopG ?_)
                    refine stopS_go ?_
                    refine load_org Ku6.out CS.out (.tmp 4) rfl rfl rfl ?_
                    go_wp2_with fail
                    refine (R0.out).mono ?_
                    rintro e u7 ⟨rfl, hb⟩
                    have Ku7 := Lib.hid (Ku6.out.keep hb)
                    have Ju7 := Lib.hid (Ju6.out.keep hb)
                    have Tu7 := Lib.hid (Tu6.out.keep hb)
                    have Bu7 := Lib.hid (belowOn Bu6.out Bu6.out.size hb)
                    clear hb Bu6 Ku6 Ju6 Tu6
                    have q1 := refof17_calls A c l u7 (HROW.out.keep Bu7.out) (fun x hx => (HOK.out x hx).keep Bu7.out) hlc hcm y HY.out (by omega) (by omega)
                    rw [← DD.out] at q1
                    have R1 := Lib.hid q1
                    clear q1
                    go_wp2_with (with_reducible refine stopG ?_)
                    refine stopS_go ?_
                    refine load_org Ju7.out DS.out (.tmp 5) rfl rfl rfl ?_
                    go_wp2_with fail
                    refine (R1.out).mono ?_
                    rintro e u8 ⟨rfl, hb⟩
                    have Ku8 := Lib.hid (Ku7.out.keep hb)
                    have Ju8 := Lib.hid (Ju7.out.keep hb)
                    have Tu8 := Lib.hid (Tu7.out.keep hb)
                    have Bu8 := Lib.hid (belowOn Bu7.out Bu7.out.size hb)
                    clear hb Bu7 Ku7 Ju7 Tu7
                    have o1 := fun (V : World) (hb : Below u8.heap.size u8 V) => of17_calls (Tu8.out.keep hb) (HF.out _ (belowOn Bu8.out Bu8.out.size hb)) x HX.out (by omega) (by omega)
                    have o2 := fun (V : World) (hb : Below u8.heap.size u8 V) => of17_calls (Tu8.out.keep hb) (HF.out _ (belowOn Bu8.out Bu8.out.size hb)) y HY.out (by omega) (by omega)
                    have o3 := fun (V : World) (hb : Below u8.heap.size u8 V) => same17_calls (Tu8.out.keep hb) (HF.out _ (belowOn Bu8.out Bu8.out.size hb)) x y HX.out HY.out (by omega) (by omega) (by omega) (by omega)
                    have o4 := fun (V : World) (hb : Below u8.heap.size u8 V) => same17_calls (Tu8.out.keep hb) (HF.out _ (belowOn Bu8.out Bu8.out.size hb)) x x HX.out HX.out (by omega) (by omega) (by omega) (by omega)
                    rw [← CC.out] at o1
                    rw [← DD.out] at o2
                    rw [HS1.out, ← CC.out, ← DD.out] at o3
                    rw [HS2.out, ← CC.out] at o4
                    have hcm := HCM.out
                    generalize mkB (siteT (l.map (·.r)) x) = SX at o1 hcm ⊢
                    generalize mkB (siteT (l.map (·.r)) y) = SY at o2 hcm ⊢
                    have O1 := Lib.hid o1
                    have O2 := Lib.hid o2
                    have O3 := Lib.hid o3
                    have O4 := Lib.hid o4
                    have HC := Lib.hid hcm
                    clear o1 o2 o3 o4 hcm
                    go_upto_region 7 with fail
                    clear HAW HF HN HROW HOK HW HX HY C1 C3 D1 D3 Tu8 R0 R1 HS1 HS2 HCM F1
                    refine wp_region_RI [.is (.bool true), .is (.bool true), .is (.pointer (some ⟨t, 0, none⟩)), .is (.agg C), .is (.string SX), .is (.string SX), .is (.bool true), .is (.bool true), .is (.bool true), .is (.pointer (some ⟨t, 0, none⟩)), .is (.agg D), .is (.string SY), .is (.string SY), .is (.bool true), .is (.bool true), .is (.bool true), .is (.pointer (some ⟨t, 0, none⟩)), .is (.agg C), .is (.agg D), .is (.bool true), .is (.pointer (some ⟨w.heap.size, 0, none⟩)), .is (.bool false), .is (.bool true), .is (.bool true), .is (.pointer (some ⟨(w.heap.size + 1), 0, none⟩)), .is (.bool false), .is (.bool true), .is (.bool true), .is (.bool true), .is (.string SX), .is (.string SY), .is (.bool true), .is (.bool true), .is (.bool true), .is (.bool true), .is (.bool true), .is (.pointer (some ⟨t, 0, none⟩)), .is (.agg C), .is (.agg C), .is (.bool true), .is (.pointer (some ⟨w.heap.size, 0, none⟩)), .is (.bool false), .is (.bool true), .is (.bool true), .is (.bool true), .is (.bool true)] (by kernel_rfl) (by kernel_rfl) (by kernel_rfl) ?_ ?_
                    · intro i o sp ho hs a w2 hbe htz hkept hdep
                      have hi : i < 46 := (Array.getElem?_eq_some_iff.1 ho).1
                      have hsz : a.tmps.size = 95 := htz
                      have K2 := Lib.hid (Ku8.out.keep hbe)
                      have J2 := Lib.hid (Ju8.out.keep hbe)
                      have x0 := (K2.out.cell 0).trans C0.out
                      have y0 := (J2.out.cell 0).trans D0.out
                      have lt1 := K2.out.lt
                      have lt2 := J2.out.lt
                      have hb7 : a.tmps.getD 7 undef = .bool true := hkept 7 (noDst_spec (by kernel_rfl))
                      have hb8 : a.tmps.getD 8 undef = .pointer (some ⟨t, 0, none⟩) := hkept 8 (noDst_spec (by kernel_rfl))
                      have hb9 : a.tmps.getD 9 undef = .string SX := hkept 9 (noDst_spec (by kernel_rfl))
                      have hb10 : a.tmps.getD 10 undef = .string SY := hkept 10 (noDst_spec (by kernel_rfl))
                      have hb4 : a.tmps.getD 4 undef = .pointer (some ⟨w.heap.size, 0, none⟩) := hkept 4 (noDst_spec (by kernel_rfl))
                      have hb5 : a.tmps.getD 5 undef = .pointer (some ⟨(w.heap.size + 1), 0, none⟩) := hkept 5 (noDst_spec (by kernel_rfl))
                      rcases (by omega : i = 0 ∨ i = 1 ∨ i = 2 ∨ i = 3 ∨ i = 4 ∨ i = 5 ∨ i = 6 ∨ i = 7 ∨ i = 8 ∨ i = 9 ∨ i = 10 ∨ i = 11 ∨ i = 12 ∨ i = 13 ∨ i = 14 ∨ i = 15 ∨ i = 16 ∨ i = 17 ∨ i = 18 ∨ i = 19 ∨ i = 20 ∨ i = 21 ∨ i = 22 ∨ i = 23 ∨ i = 24 ∨ i = 25 ∨ i = 26 ∨ i = 27 ∨ i = 28 ∨ i = 29 ∨ i = 30 ∨ i = 31 ∨ i = 32 ∨ i = 33 ∨ i = 34 ∨ i = 35 ∨ i = 36 ∨ i = 37 ∨ i = 38 ∨ i = 39 ∨ i = 40 ∨ i = 41 ∨ i = 42 ∨ i = 43 ∨ i = 44 ∨ i = 45) with rfl | rfl | rfl | rfl | rfl | rfl | rfl | rfl | rfl | rfl | rfl | rfl | rfl | rfl | rfl | rfl | rfl | rfl | rfl | rfl | rfl | rfl | rfl | rfl | rfl | rfl | rfl | rfl | rfl | rfl | rfl | rfl | rfl | rfl | rfl | rfl | rfl | rfl | rfl | rfl | rfl | rfl | rfl | rfl | rfl | rfl
                      · as_aux_lemma =>
                        obtain rfl := Option.some.inj ho
                        obtain rfl := Option.some.inj hs
                        have e7 : a.tmps.getD 7 undef = .bool true := hb7
                        exact wpOp_plain rfl rfl (u := .bool true) (fun ρ hc hf ht => by have f7 := (ht 7).trans e7; clear ht; simp [go_sem, *]) ⟨_, rfl, rfl, Below.refl _ _⟩
                      · as_aux_lemma =>
                        obtain rfl := Option.some.inj ho
                        obtain rfl := Option.some.inj hs
                        have e50 : a.tmps.getD 50 undef = .bool true := hdep 0 _ _ _ rfl rfl rfl (by kernel_rfl)
                        exact wpOp_plain rfl rfl (u := .bool true) (fun ρ hc hf ht => by have f50 := (ht 50).trans e50; clear ht; simp [go_sem, *]) ⟨_, rfl, rfl, Below.refl _ _⟩
                      · as_aux_lemma =>
                        obtain rfl := Option.some.inj ho
                        obtain rfl := Option.some.inj hs
                        have e8 : a.tmps.getD 8 undef = .pointer (some ⟨t, 0, none⟩) := hb8
                        have e51 : a.tmps.getD 51 undef = .bool true := hdep 1 _ _ _ rfl rfl rfl (by kernel_rfl)
                        exact wpOp_plain rfl (by simp [Region.wanted, yielded, got_some e51 (by omega)]) (u := .pointer (some ⟨t, 0, none⟩)) (fun ρ hc hf ht => by have f8 := (ht 8).trans e8; clear ht; simp [go_sem, *]) ⟨_, rfl, rfl, Below.refl _ _⟩
                      · as_aux_lemma =>
                        obtain rfl := Option.some.inj ho
                        obtain rfl := Option.some.inj hs
                        have e4 : a.tmps.getD 4 undef = .pointer (some ⟨w.heap.size, 0, none⟩) := hb4
                        have e51 : a.tmps.getD 51 undef = .bool true := hdep 1 _ _ _ rfl rfl rfl (by kernel_rfl)
                        exact wpOp_plain rfl (by simp [Region.wanted, yielded, got_some e51 (by omega)]) (u := .agg C) (fun ρ hc hf ht => load_row _ rfl ((ht 4).trans e4) K2.out Tryd.underlying49 (by rw [CS.out]; exact info_org)) ⟨_, rfl, rfl, Below.refl _ _⟩
                      · as_aux_lemma =>
                        obtain rfl := Option.some.inj ho
                        obtain rfl := Option.some.inj hs
                        have e52 : a.tmps.getD 52 undef = .pointer (some ⟨t, 0, none⟩) := hdep 2 _ _ _ rfl rfl rfl (by kernel_rfl)
                        have e53 : a.tmps.getD 53 undef = .agg C := hdep 3 _ _ _ rfl rfl rfl (by kernel_rfl)
                        have e51 : a.tmps.getD 51 undef = .bool true := hdep 1 _ _ _ rfl rfl rfl (by kernel_rfl)
                        refine wpOp_calls (f := 31) (args := #[.pointer (some ⟨t, 0, none⟩), .agg C]) rfl (by simp [Region.wanted, yielded, got_some e51 (by omega)]) (fun ρ hc hf ht => by have f52 := (ht 52).trans e52; have f53 := (ht 53).trans e53; clear ht; simp [go_sem, *]) ?_
                        exact (O1.out w2 hbe).mono fun e w' h => ⟨_, h.1, _, rfl, rfl, h.2⟩
                      · as_aux_lemma =>
                        obtain rfl := Option.some.inj ho
                        obtain rfl := Option.some.inj hs
                        have e9 : a.tmps.getD 9 undef = .string SX := hb9
                        have e51 : a.tmps.getD 51 undef = .bool true := hdep 1 _ _ _ rfl rfl rfl (by kernel_rfl)
                        exact wpOp_plain rfl (by simp [Region.wanted, yielded, got_some e51 (by omega)]) (u := .string SX) (fun ρ hc hf ht => by have f9 := (ht 9).trans e9; clear ht; simp [go_sem, *]) ⟨_, rfl, rfl, Below.refl _ _⟩
                      · as_aux_lemma =>
                        obtain rfl := Option.some.inj ho
                        obtain rfl := Option.some.inj hs
                        have e54 : a.tmps.getD 54 undef = .string SX := hdep 4 _ _ _ rfl rfl rfl (by kernel_rfl)
                        have e55 : a.tmps.getD 55 undef = .string SX := hdep 5 _ _ _ rfl rfl rfl (by kernel_rfl)
                        have e51 : a.tmps.getD 51 undef = .bool true := hdep 1 _ _ _ rfl rfl rfl (by kernel_rfl)
                        exact wpOp_plain rfl (by simp [Region.wanted, yielded, got_some e51 (by omega)]) (u := .bool true) (fun ρ hc hf ht => by have f54 := (ht 54).trans e54; have f55 := (ht 55).trans e55; clear ht; simp [go_sem, *]) ⟨_, rfl, rfl, Below.refl _ _⟩
                      · as_aux_lemma =>
                        obtain rfl := Option.some.inj ho
                        obtain rfl := Option.some.inj hs
                        have e51 : a.tmps.getD 51 undef = .bool true := hdep 1 _ _ _ rfl rfl rfl (by kernel_rfl)
                        have e56 : a.tmps.getD 56 undef = .bool true := hdep 6 _ _ _ rfl rfl rfl (by kernel_rfl)
                        exact wpOp_plain rfl rfl (u := .bool true) (fun ρ hc hf ht => by have f51 := (ht 51).trans e51; have f56 := (ht 56).trans e56; clear ht; simp [go_sem, *]) ⟨_, rfl, rfl, Below.refl _ _⟩
                      · as_aux_lemma =>
                        obtain rfl := Option.some.inj ho
                        obtain rfl := Option.some.inj hs
                        have e57 : a.tmps.getD 57 undef = .bool true := hdep 7 _ _ _ rfl rfl rfl (by kernel_rfl)
                        exact wpOp_plain rfl rfl (u := .bool true) (fun ρ hc hf ht => by have f57 := (ht 57).trans e57; clear ht; simp [go_sem, *]) ⟨_, rfl, rfl, Below.refl _ _⟩
                      · as_aux_lemma =>
                        obtain rfl := Option.some.inj ho
                        obtain rfl := Option.some.inj hs
                        have e8 : a.tmps.getD 8 undef = .pointer (some ⟨t, 0, none⟩) := hb8
                        have e58 : a.tmps.getD 58 undef = .bool true := hdep 8 _ _ _ rfl rfl rfl (by kernel_rfl)
                        exact wpOp_plain rfl (by simp [Region.wanted, yielded, got_some e58 (by omega)]) (u := .pointer (some ⟨t, 0, none⟩)) (fun ρ hc hf ht => by have f8 := (ht 8).trans e8; clear ht; simp [go_sem, *]) ⟨_, rfl, rfl, Below.refl _ _⟩
                      · as_aux_lemma =>
                        obtain rfl := Option.some.inj ho
                        obtain rfl := Option.some.inj hs
                        have e5 : a.tmps.getD 5 undef = .pointer (some ⟨(w.heap.size + 1), 0, none⟩) := hb5
                        have e58 : a.tmps.getD 58 undef = .bool true := hdep 8 _ _ _ rfl rfl rfl (by kernel_rfl)
                        exact wpOp_plain rfl (by simp [Region.wanted, yielded, got_some e58 (by omega)]) (u := .agg D) (fun ρ hc hf ht => load_row _ rfl ((ht 5).trans e5) J2.out Tryd.underlying49 (by rw [DS.out]; exact info_org)) ⟨_, rfl, rfl, Below.refl _ _⟩
                      · as_aux_lemma =>
                        obtain rfl := Option.some.inj ho
                        obtain rfl := Option.some.inj hs
                        have e59 : a.tmps.getD 59 undef = .pointer (some ⟨t, 0, none⟩) := hdep 9 _ _ _ rfl rfl rfl (by kernel_rfl)
                        have e60 : a.tmps.getD 60 undef = .agg D := hdep 10 _ _ _ rfl rfl rfl (by kernel_rfl)
                        have e58 : a.tmps.getD 58 undef = .bool true := hdep 8 _ _ _ rfl rfl rfl (by kernel_rfl)
                        refine wpOp_calls (f := 31) (args := #[.pointer (some ⟨t, 0, none⟩), .agg D]) rfl (by simp [Region.wanted, yielded, got_some e58 (by omega)]) (fun ρ hc hf ht => by have f59 := (ht 59).trans e59; have f60 := (ht 60).trans e60; clear ht; simp [go_sem, *]) ?_
                        exact (O2.out w2 hbe).mono fun e w' h => ⟨_, h.1, _, rfl, rfl, h.2⟩
                      · as_aux_lemma =>
                        obtain rfl := Option.some.inj ho
                        obtain rfl := Option.some.inj hs
                        have e10 : a.tmps.getD 10 undef = .string SY := hb10
                        have e58 : a.tmps.getD 58 undef = .bool true := hdep 8 _ _ _ rfl rfl rfl (by kernel_rfl)
                        exact wpOp_plain rfl (by simp [Region.wanted, yielded, got_some e58 (by omega)]) (u := .string SY) (fun ρ hc hf ht => by have f10 := (ht 10).trans e10; clear ht; simp [go_sem, *]) ⟨_, rfl, rfl, Below.refl _ _⟩
                      · as_aux_lemma =>
                        obtain rfl := Option.some.inj ho
                        obtain rfl := Option.some.inj hs
                        have e61 : a.tmps.getD 61 undef = .string SY := hdep 11 _ _ _ rfl rfl rfl (by kernel_rfl)
                        have e62 : a.tmps.getD 62 undef = .string SY := hdep 12 _ _ _ rfl rfl rfl (by kernel_rfl)
                        have e58 : a.tmps.getD 58 undef = .bool true := hdep 8 _ _ _ rfl rfl rfl (by kernel_rfl)
                        exact wpOp_plain rfl (by simp [Region.wanted, yielded, got_some e58 (by omega)]) (u := .bool true) (fun ρ hc hf ht => by have f61 := (ht 61).trans e61; have f62 := (ht 62).trans e62; clear ht; simp [go_sem, *]) ⟨_, rfl, rfl, Below.refl _ _⟩
                      · as_aux_lemma =>
                        obtain rfl := Option.some.inj ho
                        obtain rfl := Option.some.inj hs
                        have e58 : a.tmps.getD 58 undef = .bool true := hdep 8 _ _ _ rfl rfl rfl (by kernel_rfl)
                        have e63 : a.tmps.getD 63 undef = .bool true := hdep 13 _ _ _ rfl rfl rfl (by kernel_rfl)
                        exact wpOp_plain rfl rfl (u := .bool true) (fun ρ hc hf ht => by have f58 := (ht 58).trans e58; have f63 := (ht 63).trans e63; clear ht; simp [go_sem, *]) ⟨_, rfl, rfl, Below.refl _ _⟩
                      · as_aux_lemma =>
                        obtain rfl := Option.some.inj ho
                        obtain rfl := Option.some.inj hs
                        have e64 : a.tmps.getD 64 undef = .bool true := hdep 14 _ _ _ rfl rfl rfl (by kernel_rfl)
                        exact wpOp_plain rfl rfl (u := .bool true) (fun ρ hc hf ht => by have f64 := (ht 64).trans e64; clear ht; simp [go_sem, *]) ⟨_, rfl, rfl, Below.refl _ _⟩
                      · as_aux_lemma =>
                        obtain rfl := Option.some.inj ho
                        obtain rfl := Option.some.inj hs
                        have e8 : a.tmps.getD 8 undef = .pointer (some ⟨t, 0, none⟩) := hb8
                        have e65 : a.tmps.getD 65 undef = .bool true := hdep 15 _ _ _ rfl rfl rfl (by kernel_rfl)
                        exact wpOp_plain rfl (by simp [Region.wanted, yielded, got_some e65 (by omega)]) (u := .pointer (some ⟨t, 0, none⟩)) (fun ρ hc hf ht => by have f8 := (ht 8).trans e8; clear ht; simp [go_sem, *]) ⟨_, rfl, rfl, Below.refl _ _⟩
                      · as_aux_lemma =>
                        obtain rfl := Option.some.inj ho
                        obtain rfl := Option.some.inj hs
                        have e4 : a.tmps.getD 4 undef = .pointer (some ⟨w.heap.size, 0, none⟩) := hb4
                        have e65 : a.tmps.getD 65 undef = .bool true := hdep 15 _ _ _ rfl rfl rfl (by kernel_rfl)
                        exact wpOp_plain rfl (by simp [Region.wanted, yielded, got_some e65 (by omega)]) (u := .agg C) (fun ρ hc hf ht => load_row _ rfl ((ht 4).trans e4) K2.out Tryd.underlying49 (by rw [CS.out]; exact info_org)) ⟨_, rfl, rfl, Below.refl _ _⟩
                      · as_aux_lemma =>
                        obtain rfl := Option.some.inj ho
                        obtain rfl := Option.some.inj hs
                        have e5 : a.tmps.getD 5 undef = .pointer (some ⟨(w.heap.size + 1), 0, none⟩) := hb5
                        have e65 : a.tmps.getD 65 undef = .bool true := hdep 15 _ _ _ rfl rfl rfl (by kernel_rfl)
                        exact wpOp_plain rfl (by simp [Region.wanted, yielded, got_some e65 (by omega)]) (u := .agg D) (fun ρ hc hf ht => load_row _ rfl ((ht 5).trans e5) J2.out Tryd.underlying49 (by rw [DS.out]; exact info_org)) ⟨_, rfl, rfl, Below.refl _ _⟩
                      · as_aux_lemma =>
                        obtain rfl := Option.some.inj ho
                        obtain rfl := Option.some.inj hs
                        have e66 : a.tmps.getD 66 undef = .pointer (some ⟨t, 0, none⟩) := hdep 16 _ _ _ rfl rfl rfl (by kernel_rfl)
                        have e67 : a.tmps.getD 67 undef = .agg C := hdep 17 _ _ _ rfl rfl rfl (by kernel_rfl)
                        have e68 : a.tmps.getD 68 undef = .agg D := hdep 18 _ _ _ rfl rfl rfl (by kernel_rfl)
                        have e65 : a.tmps.getD 65 undef = .bool true := hdep 15 _ _ _ rfl rfl rfl (by kernel_rfl)
                        refine wpOp_calls (f := 32) (args := #[.pointer (some ⟨t, 0, none⟩), .agg C, .agg D]) rfl (by simp [Region.wanted, yielded, got_some e65 (by omega)]) (fun ρ hc hf ht => by have f66 := (ht 66).trans e66; have f67 := (ht 67).trans e67; have f68 := (ht 68).trans e68; clear ht; simp [go_sem, *]) ?_
                        exact (O3.out w2 hbe).mono fun e w' h => ⟨_, h.1, _, rfl, rfl, h.2⟩
                      · as_aux_lemma =>
                        obtain rfl := Option.some.inj ho
                        obtain rfl := Option.some.inj hs
                        have e4 : a.tmps.getD 4 undef = .pointer (some ⟨w.heap.size, 0, none⟩) := hb4
                        have e65 : a.tmps.getD 65 undef = .bool true := hdep 15 _ _ _ rfl rfl rfl (by kernel_rfl)
                        exact wpOp_plain rfl (by simp [Region.wanted, yielded, got_some e65 (by omega)]) (u := .pointer (some ⟨w.heap.size, 0, none⟩)) (fun ρ hc hf ht => by have f4 := (ht 4).trans e4; clear ht; simp [go_sem, *]) ⟨_, rfl, rfl, Below.refl _ _⟩
                      · as_aux_lemma =>
                        obtain rfl := Option.some.inj ho
                        obtain rfl := Option.some.inj hs
                        have e70 : a.tmps.getD 70 undef = .pointer (some ⟨w.heap.size, 0, none⟩) := hdep 20 _ _ _ rfl rfl rfl (by kernel_rfl)
                        have e65 : a.tmps.getD 65 undef = .bool true := hdep 15 _ _ _ rfl rfl rfl (by kernel_rfl)
                        exact wpOp_plain rfl (by simp [Region.wanted, yielded, got_some e65 (by omega)]) (u := .bool false) (fun ρ hc hf ht => by have f70 := (ht 70).trans e70; clear ht; have q0 := x0; simp [go_sem, *]) ⟨_, rfl, rfl, Below.refl _ _⟩
                      · as_aux_lemma =>
                        obtain rfl := Option.some.inj ho
                        obtain rfl := Option.some.inj hs
                        have e71 : a.tmps.getD 71 undef = .bool false := hdep 21 _ _ _ rfl rfl rfl (by kernel_rfl)
                        have e65 : a.tmps.getD 65 undef = .bool true := hdep 15 _ _ _ rfl rfl rfl (by kernel_rfl)
                        exact wpOp_plain rfl (by simp [Region.wanted, yielded, got_some e65 (by omega)]) (u := .bool true) (fun ρ hc hf ht => by have f71 := (ht 71).trans e71; clear ht; simp [go_sem, *]) ⟨_, rfl, rfl, Below.refl _ _⟩
                      · as_aux_lemma =>
                        obtain rfl := Option.some.inj ho
                        obtain rfl := Option.some.inj hs
                        have e72 : a.tmps.getD 72 undef = .bool true := hdep 22 _ _ _ rfl rfl rfl (by kernel_rfl)
                        have e65 : a.tmps.getD 65 undef = .bool true := hdep 15 _ _ _ rfl rfl rfl (by kernel_rfl)
                        exact wpOp_plain rfl (by simp [Region.wanted, yielded, got_some e65 (by omega)]) (u := .bool true) (fun ρ hc hf ht => by have f72 := (ht 72).trans e72; clear ht; simp [go_sem, *]) ⟨_, rfl, rfl, Below.refl _ _⟩
                      · as_aux_lemma =>
                        obtain rfl := Option.some.inj ho
                        obtain rfl := Option.some.inj hs
                        have e5 : a.tmps.getD 5 undef = .pointer (some ⟨(w.heap.size + 1), 0, none⟩) := hb5
                        have e73 : a.tmps.getD 73 undef = .bool true := hdep 23 _ _ _ rfl rfl rfl (by kernel_rfl)
                        exact wpOp_plain rfl (by simp [Region.wanted, yielded, got_some e73 (by omega)]) (u := .pointer (some ⟨(w.heap.size + 1), 0, none⟩)) (fun ρ hc hf ht => by have f5 := (ht 5).trans e5; clear ht; simp [go_sem, *]) ⟨_, rfl, rfl, Below.refl _ _⟩
                      · as_aux_lemma =>
                        obtain rfl := Option.some.inj ho
                        obtain rfl := Option.some.inj hs
                        have e74 : a.tmps.getD 74 undef = .pointer (some ⟨(w.heap.size + 1), 0, none⟩) := hdep 24 _ _ _ rfl rfl rfl (by kernel_rfl)
                        have e73 : a.tmps.getD 73 undef = .bool true := hdep 23 _ _ _ rfl rfl rfl (by kernel_rfl)
                        exact wpOp_plain rfl (by simp [Region.wanted, yielded, got_some e73 (by omega)]) (u := .bool false) (fun ρ hc hf ht => by have f74 := (ht 74).trans e74; clear ht; have q0 := y0; simp [go_sem, *]) ⟨_, rfl, rfl, Below.refl _ _⟩
                      · as_aux_lemma =>
                        obtain rfl := Option.some.inj ho
                        obtain rfl := Option.some.inj hs
                        have e75 : a.tmps.getD 75 undef = .bool false := hdep 25 _ _ _ rfl rfl rfl (by kernel_rfl)
                        have e73 : a.tmps.getD 73 undef = .bool true := hdep 23 _ _ _ rfl rfl rfl (by kernel_rfl)
                        exact wpOp_plain rfl (by simp [Region.wanted, yielded, got_some e73 (by omega)]) (u := .bool true) (fun ρ hc hf ht => by have f75 := (ht 75).trans e75; clear ht; simp [go_sem, *]) ⟨_, rfl, rfl, Below.refl _ _⟩
                      · as_aux_lemma =>
                        obtain rfl := Option.some.inj ho
                        obtain rfl := Option.some.inj hs
                        have e73 : a.tmps.getD 73 undef = .bool true := hdep 23 _ _ _ rfl rfl rfl (by kernel_rfl)
                        have e76 : a.tmps.getD 76 undef = .bool true := hdep 26 _ _ _ rfl rfl rfl (by kernel_rfl)
                        have e65 : a.tmps.getD 65 undef = .bool true := hdep 15 _ _ _ rfl rfl rfl (by kernel_rfl)
                        exact wpOp_plain rfl (by simp [Region.wanted, yielded, got_some e65 (by omega)]) (u := .bool true) (fun ρ hc hf ht => by have f73 := (ht 73).trans e73; have f76 := (ht 76).trans e76; clear ht; simp [go_sem, *]) ⟨_, rfl, rfl, Below.refl _ _⟩
                      · as_aux_lemma =>
                        obtain rfl := Option.some.inj ho
                        obtain rfl := Option.some.inj hs
                        have e77 : a.tmps.getD 77 undef = .bool true := hdep 27 _ _ _ rfl rfl rfl (by kernel_rfl)
                        have e65 : a.tmps.getD 65 undef = .bool true := hdep 15 _ _ _ rfl rfl rfl (by kernel_rfl)
                        exact wpOp_plain rfl (by simp [Region.wanted, yielded, got_some e65 (by omega)]) (u := .bool true) (fun ρ hc hf ht => by have f77 := (ht 77).trans e77; clear ht; simp [go_sem, *]) ⟨_, rfl, rfl, Below.refl _ _⟩
                      · as_aux_lemma =>
                        obtain rfl := Option.some.inj ho
                        obtain rfl := Option.some.inj hs
                        have e9 : a.tmps.getD 9 undef = .string SX := hb9
                        have e78 : a.tmps.getD 78 undef = .bool true := hdep 28 _ _ _ rfl rfl rfl (by kernel_rfl)
                        exact wpOp_plain rfl (by simp [Region.wanted, yielded, got_some e78 (by omega)]) (u := .string SX) (fun ρ hc hf ht => by have f9 := (ht 9).trans e9; clear ht; simp [go_sem, *]) ⟨_, rfl, rfl, Below.refl _ _⟩
                      · as_aux_lemma =>
                        obtain rfl := Option.some.inj ho
                        obtain rfl := Option.some.inj hs
                        have e10 : a.tmps.getD 10 undef = .string SY := hb10
                        have e78 : a.tmps.getD 78 undef = .bool true := hdep 28 _ _ _ rfl rfl rfl (by kernel_rfl)
                        exact wpOp_plain rfl (by simp [Region.wanted, yielded, got_some e78 (by omega)]) (u := .string SY) (fun ρ hc hf ht => by have f10 := (ht 10).trans e10; clear ht; simp [go_sem, *]) ⟨_, rfl, rfl, Below.refl _ _⟩
                      · as_aux_lemma =>
                        obtain rfl := Option.some.inj ho
                        obtain rfl := Option.some.inj hs
                        have e79 : a.tmps.getD 79 undef = .string SX := hdep 29 _ _ _ rfl rfl rfl (by kernel_rfl)
                        have e80 : a.tmps.getD 80 undef = .string SY := hdep 30 _ _ _ rfl rfl rfl (by kernel_rfl)
                        have e78 : a.tmps.getD 78 undef = .bool true := hdep 28 _ _ _ rfl rfl rfl (by kernel_rfl)
                        exact wpOp_plain rfl (by simp [Region.wanted, yielded, got_some e78 (by omega)]) (u := .bool true) (fun ρ hc hf ht => by have f79 := (ht 79).trans e79; have f80 := (ht 80).trans e80; clear ht; have q0 := HC.out; simp [go_sem, *]) ⟨_, rfl, rfl, Below.refl _ _⟩
                      · as_aux_lemma =>
                        obtain rfl := Option.some.inj ho
                        obtain rfl := Option.some.inj hs
                        have e78 : a.tmps.getD 78 undef = .bool true := hdep 28 _ _ _ rfl rfl rfl (by kernel_rfl)
                        have e81 : a.tmps.getD 81 undef = .bool true := hdep 31 _ _ _ rfl rfl rfl (by kernel_rfl)
                        have e65 : a.tmps.getD 65 undef = .bool true := hdep 15 _ _ _ rfl rfl rfl (by kernel_rfl)
                        exact wpOp_plain rfl (by simp [Region.wanted, yielded, got_some e65 (by omega)]) (u := .bool true) (fun ρ hc hf ht => by have f78 := (ht 78).trans e78; have f81 := (ht 81).trans e81; clear ht; simp [go_sem, *]) ⟨_, rfl, rfl, Below.refl _ _⟩
                      · as_aux_lemma =>
                        obtain rfl := Option.some.inj ho
                        obtain rfl := Option.some.inj hs
                        have e69 : a.tmps.getD 69 undef = .bool true := hdep 19 _ _ _ rfl rfl rfl (by kernel_rfl)
                        have e82 : a.tmps.getD 82 undef = .bool true := hdep 32 _ _ _ rfl rfl rfl (by kernel_rfl)
                        have e65 : a.tmps.getD 65 undef = .bool true := hdep 15 _ _ _ rfl rfl rfl (by kernel_rfl)
                        exact wpOp_plain rfl (by simp [Region.wanted, yielded, got_some e65 (by omega)]) (u := .bool true) (fun ρ hc hf ht => by have f69 := (ht 69).trans e69; have f82 := (ht 82).trans e82; clear ht; simp [go_sem, *]) ⟨_, rfl, rfl, Below.refl _ _⟩
                      · as_aux_lemma =>
                        obtain rfl := Option.some.inj ho
                        obtain rfl := Option.some.inj hs
                        have e65 : a.tmps.getD 65 undef = .bool true := hdep 15 _ _ _ rfl rfl rfl (by kernel_rfl)
                        have e83 : a.tmps.getD 83 undef = .bool true := hdep 33 _ _ _ rfl rfl rfl (by kernel_rfl)
                        exact wpOp_plain rfl rfl (u := .bool true) (fun ρ hc hf ht => by have f65 := (ht 65).trans e65; have f83 := (ht 83).trans e83; clear ht; simp [go_sem, *]) ⟨_, rfl, rfl, Below.refl _ _⟩
                      · as_aux_lemma =>
                        obtain rfl := Option.some.inj ho
                        obtain rfl := Option.some.inj hs
                        have e84 : a.tmps.getD 84 undef = .bool true := hdep 34 _ _ _ rfl rfl rfl (by kernel_rfl)
                        exact wpOp_plain rfl rfl (u := .bool true) (fun ρ hc hf ht => by have f84 := (ht 84).trans e84; clear ht; simp [go_sem, *]) ⟨_, rfl, rfl, Below.refl _ _⟩
                      · as_aux_lemma =>
                        obtain rfl := Option.some.inj ho
                        obtain rfl := Option.some.inj hs
                        have e8 : a.tmps.getD 8 undef = .pointer (some ⟨t, 0, none⟩) := hb8
                        have e85 : a.tmps.getD 85 undef = .bool true := hdep 35 _ _ _ rfl rfl rfl (by kernel_rfl)
                        exact wpOp_plain rfl (by simp [Region.wanted, yielded, got_some e85 (by omega)]) (u := .pointer (some ⟨t, 0, none⟩)) (fun ρ hc hf ht => by have f8 := (ht 8).trans e8; clear ht; simp [go_sem, *]) ⟨_, rfl, rfl, Below.refl _ _⟩
                      · as_aux_lemma =>
                        obtain rfl := Option.some.inj ho
                        obtain rfl := Option.some.inj hs
                        have e4 : a.tmps.getD 4 undef = .pointer (some ⟨w.heap.size, 0, none⟩) := hb4
                        have e85 : a.tmps.getD 85 undef = .bool true := hdep 35 _ _ _ rfl rfl rfl (by kernel_rfl)
                        exact wpOp_plain rfl (by simp [Region.wanted, yielded, got_some e85 (by omega)]) (u := .agg C) (fun ρ hc hf ht => load_row _ rfl ((ht 4).trans e4) K2.out Tryd.underlying49 (by rw [CS.out]; exact info_org)) ⟨_, rfl, rfl, Below.refl _ _⟩
                      · as_aux_lemma =>
                        obtain rfl := Option.some.inj ho
                        obtain rfl := Option.some.inj hs
                        have e4 : a.tmps.getD 4 undef = .pointer (some ⟨w.heap.size, 0, none⟩) := hb4
                        have e85 : a.tmps.getD 85 undef = .bool true := hdep 35 _ _ _ rfl rfl rfl (by kernel_rfl)
                        exact wpOp_plain rfl (by simp [Region.wanted, yielded, got_some e85 (by omega)]) (u := .agg C) (fun ρ hc hf ht => load_row _ rfl ((ht 4).trans e4) K2.out Tryd.underlying49 (by rw [CS.out]; exact info_org)) ⟨_, rfl, rfl, Below.refl _ _⟩
                      · as_aux_lemma =>
                        obtain rfl := Option.some.inj ho
                        obtain rfl := Option.some.inj hs
                        have e86 : a.tmps.getD 86 undef = .pointer (some ⟨t, 0, none⟩) := hdep 36 _ _ _ rfl rfl rfl (by kernel_rfl)
                        have e87 : a.tmps.getD 87 undef = .agg C := hdep 37 _ _ _ rfl rfl rfl (by kernel_rfl)
                        have e88 : a.tmps.getD 88 undef = .agg C := hdep 38 _ _ _ rfl rfl rfl (by kernel_rfl)
                        have e85 : a.tmps.getD 85 undef = .bool true := hdep 35 _ _ _ rfl rfl rfl (by kernel_rfl)
                        refine wpOp_calls (f := 32) (args := #[.pointer (some ⟨t, 0, none⟩), .agg C, .agg C]) rfl (by simp [Region.wanted, yielded, got_some e85 (by omega)]) (fun ρ hc hf ht => by have f86 := (ht 86).trans e86; have f87 := (ht 87).trans e87; have f88 := (ht 88).trans e88; clear ht; simp [go_sem, *]) ?_
                        exact (O4.out w2 hbe).mono fun e w' h => ⟨_, h.1, _, rfl, rfl, h.2⟩
                      · as_aux_lemma =>
                        obtain rfl := Option.some.inj ho
                        obtain rfl := Option.some.inj hs
                        have e4 : a.tmps.getD 4 undef = .pointer (some ⟨w.heap.size, 0, none⟩) := hb4
                        have e85 : a.tmps.getD 85 undef = .bool true := hdep 35 _ _ _ rfl rfl rfl (by kernel_rfl)
                        exact wpOp_plain rfl (by simp [Region.wanted, yielded, got_some e85 (by omega)]) (u := .pointer (some ⟨w.heap.size, 0, none⟩)) (fun ρ hc hf ht => by have f4 := (ht 4).trans e4; clear ht; simp [go_sem, *]) ⟨_, rfl, rfl, Below.refl _ _⟩
                      · as_aux_lemma =>
                        obtain rfl := Option.some.inj ho
                        obtain rfl := Option.some.inj hs
                        have e90 : a.tmps.getD 90 undef = .pointer (some ⟨w.heap.size, 0, none⟩) := hdep 40 _ _ _ rfl rfl rfl (by kernel_rfl)
                        have e85 : a.tmps.getD 85 undef = .bool true := hdep 35 _ _ _ rfl rfl rfl (by kernel_rfl)
                        exact wpOp_plain rfl (by simp [Region.wanted, yielded, got_some e85 (by omega)]) (u := .bool false) (fun ρ hc hf ht => by have f90 := (ht 90).trans e90; clear ht; have q0 := x0; simp [go_sem, *]) ⟨_, rfl, rfl, Below.refl _ _⟩
                      · as_aux_lemma =>
                        obtain rfl := Option.some.inj ho
                        obtain rfl := Option.some.inj hs
                        have e91 : a.tmps.getD 91 undef = .bool false := hdep 41 _ _ _ rfl rfl rfl (by kernel_rfl)
                        have e85 : a.tmps.getD 85 undef = .bool true := hdep 35 _ _ _ rfl rfl rfl (by kernel_rfl)
                        exact wpOp_plain rfl (by simp [Region.wanted, yielded, got_some e85 (by omega)]) (u := .bool true) (fun ρ hc hf ht => by have f91 := (ht 91).trans e91; clear ht; simp [go_sem, *]) ⟨_, rfl, rfl, Below.refl _ _⟩
                      · as_aux_lemma =>
                        obtain rfl := Option.some.inj ho
                        obtain rfl := Option.some.inj hs
                        have e89 : a.tmps.getD 89 undef = .bool true := hdep 39 _ _ _ rfl rfl rfl (by kernel_rfl)
                        have e92 : a.tmps.getD 92 undef = .bool true := hdep 42 _ _ _ rfl rfl rfl (by kernel_rfl)
                        have e85 : a.tmps.getD 85 undef = .bool true := hdep 35 _ _ _ rfl rfl rfl (by kernel_rfl)
                        exact wpOp_plain rfl (by simp [Region.wanted, yielded, got_some e85 (by omega)]) (u := .bool true) (fun ρ hc hf ht => by have f89 := (ht 89).trans e89; have f92 := (ht 92).trans e92; clear ht; simp [go_sem, *]) ⟨_, rfl, rfl, Below.refl _ _⟩
                      · as_aux_lemma =>
                        obtain rfl := Option.some.inj ho
                        obtain rfl := Option.some.inj hs
                        have e85 : a.tmps.getD 85 undef = .bool true := hdep 35 _ _ _ rfl rfl rfl (by kernel_rfl)
                        have e93 : a.tmps.getD 93 undef = .bool true := hdep 43 _ _ _ rfl rfl rfl (by kernel_rfl)
                        exact wpOp_plain rfl rfl (u := .bool true) (fun ρ hc hf ht => by have f85 := (ht 85).trans e85; have f93 := (ht 93).trans e93; clear ht; simp [go_sem, *]) ⟨_, rfl, rfl, Below.refl _ _⟩
                      · as_aux_lemma =>
                        obtain rfl := Option.some.inj ho
                        obtain rfl := Option.some.inj hs
                        have e94 : a.tmps.getD 94 undef = .bool true := hdep 44 _ _ _ rfl rfl rfl (by kernel_rfl)
                        exact wpOp_plain rfl rfl (u := .bool true) (fun ρ hc hf ht => by have f94 := (ht 94).trans e94; clear ht; simp [go_sem, *]) ⟨_, rfl, rfl, Below.refl _ _⟩
                    · intro a w2 hall hdef hbe
                      have er : a.tmps.getD 6 undef = .bool true := hall 45 _ _ _ rfl rfl rfl
                      rename_i Q9 K9 hK9
                      refine hK9 _ _ (wp_ret ?_)
                      refine bodyPost_ret (results_tmp (t := 6) rfl a.tmps _ w2) hdef ?_
                      rw [er]
                      exact ⟨rfl, belowOn Bu8.out Bu8.out.size hbe⟩
                | false =>
                  as_aux_lemma =>
                    go_enter Tryd.func9, Tryd.ntmps9
                    go_wp2_with fail
                    rw [← HW.out]
                    refine (HAW.out W BW.out).mono ?_
                    rintro e u1 ⟨rfl, hb⟩
                    have Ku1 := Lib.hid (KW.out.keep hb)
                    have Ju1 := Lib.hid (JW.out.keep hb)
                    have Bu1 := Lib.hid (belowOn BW.out BW.out.size hb)
                    clear hb BW KW JW
                    go_wp2_with fail
                    refine (F1.out u1 Bu1.out).mono ?_
                    rw [hf1]
                    rintro e w9 ⟨rfl, rfl⟩
                    have z1 := (Ku1.out.cell 3).trans C3.out
                    have lt1 := Ku1.out.lt
                    go_wp2_with fail
                    refine (few17_calls x.h.name u1).mono ?_
                    rintro e u2 ⟨rfl, hb⟩
                    have Ku2 := Lib.hid (Ku1.out.keep hb)
                    have Ju2 := Lib.hid (Ju1.out.keep hb)
                    have Bu2 := Lib.hid (belowOn Bu1.out Bu1.out.size hb)
                    clear hb Bu1 Ku1 Ju1
                    clear z1 lt1
                    rw [decide_eq_true n0]
                    have z1 := (Ju2.out.cell 3).trans D3.out
                    have lt1 := Ju2.out.lt
                    go_wp2_with fail
                    refine (few17_calls y.h.name u2).mono ?_
                    rintro e u3 ⟨rfl, hb⟩
                    have Ku3 := Lib.hid (Ku2.out.keep hb)
                    have Ju3 := Lib.hid (Ju2.out.keep hb)
                    have Bu3 := Lib.hid (belowOn Bu2.out Bu2.out.size hb)
                    clear hb Bu2 Ku2 Ju2
                    clear z1 lt1
                    rw [decide_eq_true n1]
                    have z1 := (Ku3.out.cell 1).trans C1.out
                    have lt1 := Ku3.out.lt
                    go_wp2_with fail
                    refine (few17_calls x.scheme u3).mono ?_
                    rintro e u4 ⟨rfl, hb⟩
                    have Ku4 := Lib.hid (Ku3.out.keep hb)
                    have Ju4 := Lib.hid (Ju3.out.keep hb)
                    have Bu4 := Lib.hid (belowOn Bu3.out Bu3.out.size hb)
                    clear hb Bu3 Ku3 Ju3
                    clear z1 lt1
                    rw [decide_eq_true n2]
                    have z1 := (Ju4.out.cell 1).trans D1.out
                    have lt1 := Ju4.out.lt
                    go_wp2_with fail
                    refine (few17_calls y.scheme u4).mono ?_
                    rintro e u5 ⟨rfl, hb⟩
                    have Ku5 := Lib.hid (Ku4.out.keep hb)
                    have Ju5 := Lib.hid (Ju4.out.keep hb)
                    have Bu5 := Lib.hid (belowOn Bu4.out Bu4.out.size hb)
                    clear hb Bu4 Ku4 Ju4
                    clear z1 lt1
                    rw [decide_eq_true n3]
                    go_wp2_with fail
                    refine (HN.out u5 Bu5.out).mono ?_
                    rintro e u6 ⟨⟨t, a, rfl, ht⟩, hb⟩
                    have Ku6 := Lib.hid (Ku5.out.keep hb)
                    have Ju6 := Lib.hid (Ju5.out.keep hb)
                    have Bu6 := Lib.hid (belowOn Bu5.out Bu5.out.size hb)
                    have Tu6 := Lib.hid ht
                    clear ht
                    clear hb Bu5 Ku5 Ju5
                    have q1 := refof17_calls A c l u6 (HROW.out.keep Bu6.out) (fun x hx => (HOK.out x hx).keep Bu6.out) hlc hcm x HX.out (by omega) (by omega)
                    rw [← CC.out] at q1
                    have R0 := Lib.hid q1
                    clear q1
                    go_wp2_with (with_reducible refine stopG ?_)
                    refine stopS_go ?_
                    refine load_org Ku6.out CS.out (.tmp 4) rfl rfl rfl ?_
                    go_wp2_with fail
                    refine (R0.out).mono ?_
                    rintro e u7 ⟨rfl, hb⟩
                    have Ku7 := Lib.hid (Ku6.out.keep hb)
                    have Ju7 := Lib.hid (Ju6.out.keep hb)
                    have Tu7 := Lib.hid (Tu6.out.keep hb)
                    have Bu7 := Lib.hid (belowOn Bu6.out Bu6.out.size hb)
                    clear hb Bu6 Ku6 Ju6 Tu6
                    have q1 := refof17_calls A c l u7 (HROW.out.keep Bu7.out) (fun x hx => (HOK.out x hx).keep Bu7.out) hlc hcm y HY.out (by omega) (by omega)
                    rw [← DD.out] at q1
                    have R1 := Lib.hid q1
                    clear q1
                    go_wp2_with (with_reducible refine stopG ?_)
                    refine stopS_go ?_
                    refine load_org Ju7.out DS.out (.tmp 5) rfl rfl rfl ?_
                    go_wp2_with fail
                    refine (R1.out).mono ?_
                    rintro e u8 ⟨rfl, hb⟩
                    have Ku8 := Lib.hid (Ku7.out.keep hb)
                    have Ju8 := Lib.hid (Ju7.out.keep hb)
                    have Tu8 := Lib.hid (Tu7.out.keep hb)
                    have Bu8 := Lib.hid (belowOn Bu7.out Bu7.out.size hb)
                    clear hb Bu7 Ku7 Ju7 Tu7
                    have o1 := fun (V : World) (hb : Below u8.heap.size u8 V) => of17_calls (Tu8.out.keep hb) (HF.out _ (belowOn Bu8.out Bu8.out.size hb)) x HX.out (by omega) (by omega)
                    have o2 := fun (V : World) (hb : Below u8.heap.size u8 V) => of17_calls (Tu8.out.keep hb) (HF.out _ (belowOn Bu8.out Bu8.out.size hb)) y HY.out (by omega) (by omega)
                    have o3 := fun (V : World) (hb : Below u8.heap.size u8 V) => same17_calls (Tu8.out.keep hb) (HF.out _ (belowOn Bu8.out Bu8.out.size hb)) x y HX.out HY.out (by omega) (by omega) (by omega) (by omega)
                    have o4 := fun (V : World) (hb : Below u8.heap.size u8 V) => same17_calls (Tu8.out.keep hb) (HF.out _ (belowOn Bu8.out Bu8.out.size hb)) x x HX.out HX.out (by omega) (by omega) (by omega) (by omega)
                    rw [← CC.out] at o1
                    rw [← DD.out] at o2
                    rw [HS1.out, ← CC.out, ← DD.out] at o3
                    rw [HS2.out, ← CC.out] at o4
                    have hcm := HCM.out
                    generalize mkB (siteT (l.map (·.r)) x) = SX at o1 hcm ⊢
                    generalize mkB (siteT (l.map (·.r)) y) = SY at o2 hcm ⊢
                    have O1 := Lib.hid o1
                    have O2 := Lib.hid o2
                    have O3 := Lib.hid o3
                    have O4 := Lib.hid o4
                    have HC := Lib.hid hcm
                    clear o1 o2 o3 o4 hcm
                    go_upto_region 7 with fail
                    clear HAW HF HN HROW HOK HW HX HY C1 C3 D1 D3 Tu8 R0 R1 HS1 HS2 HCM F1
                    refine wp_region_RI [.is (.bool true), .is (.bool true), .is (.pointer (some ⟨t, 0, none⟩)), .is (.agg C), .is (.string SX), .is (.string SX), .is (.bool true), .is (.bool true), .is (.bool true), .is (.pointer (some ⟨t, 0, none⟩)), .is (.agg D), .is (.string SY), .is (.string SY), .is (.bool true), .is (.bool true), .is (.bool true), .is (.pointer (some ⟨t, 0, none⟩)), .is (.agg C), .is (.agg D), .is (.bool false), .is (.pointer (some ⟨w.heap.size, 0, none⟩)), .is (.bool false), .is (.bool true), .is (.bool true), .is (.pointer (some ⟨(w.heap.size + 1), 0, none⟩)), .is (.bool false), .is (.bool true), .is (.bool true), .is (.bool true), .is (.string SX), .is (.string SY), .is (.bool false), .is (.bool false), .is (.bool true), .is (.bool true), .is (.bool true), .is (.pointer (some ⟨t, 0, none⟩)), .is (.agg C), .is (.agg C), .is (.bool true), .is (.pointer (some ⟨w.heap.size, 0, none⟩)), .is (.bool false), .is (.bool true), .is (.bool true), .is (.bool true), .is (.bool true)] (by kernel_rfl) (by kernel_rfl) (by kernel_rfl) ?_ ?_
                    · intro i o sp ho hs a w2 hbe htz hkept hdep
                      have hi : i < 46 := (Array.getElem?_eq_some_iff.1 ho).1
                      have hsz : a.tmps.size = 95 := htz
                      have K2 := Lib.hid (Ku8.out.keep hbe)
                      have J2 := Lib.hid (Ju8.out.keep hbe)
                      have x0 := (K2.out.cell 0).trans C0.out
                      have y0 := (J2.out.cell 0).trans D0.out
                      have lt1 := K2.out.lt
                      have lt2 := J2.out.lt
                      have hb7 : a.tmps.getD 7 undef = .bool true := hkept 7 (noDst_spec (by kernel_rfl))
                      have hb8 : a.tmps.getD 8 undef = .pointer (some ⟨t, 0, none⟩) := hkept 8 (noDst_spec (by kernel_rfl))
                      have hb9 : a.tmps.getD 9 undef = .string SX := hkept 9 (noDst_spec (by kernel_rfl))
                      have hb10 : a.tmps.getD 10 undef = .string SY := hkept 10 (noDst_spec (by kernel_rfl))
                      have hb4 : a.tmps.getD 4 undef = .pointer (some ⟨w.heap.size, 0, none⟩) := hkept 4 (noDst_spec (by kernel_rfl))
                      have hb5 : a.tmps.getD 5 undef = .pointer (some ⟨(w.heap.size + 1), 0, none⟩) := hkept 5 (noDst_spec (by kernel_rfl))
                      rcases (by omega : i = 0 ∨ i = 1 ∨ i = 2 ∨ i = 3 ∨ i = 4 ∨ i = 5 ∨ i = 6 ∨ i = 7 ∨ i = 8 ∨ i = 9 ∨ i = 10 ∨ i = 11 ∨ i = 12 ∨ i = 13 ∨ i = 14 ∨ i = 15 ∨ i = 16 ∨ i = 17 ∨ i = 18 ∨ i = 19 ∨ i = 20 ∨ i = 21 ∨ i = 22 ∨ i = 23 ∨ i = 24 ∨ i = 25 ∨ i = 26 ∨ i = 27 ∨ i = 28 ∨ i = 29 ∨ i = 30 ∨ i = 31 ∨ i = 32 ∨ i = 33 ∨ i = 34 ∨ i = 35 ∨ i = 36 ∨ i = 37 ∨ i = 38 ∨ i = 39 ∨ i = 40 ∨ i = 41 ∨ i = 42 ∨ i = 43 ∨ i = 44 ∨ i = 45) with rfl | rfl | rfl | rfl | rfl | rfl | rfl | rfl | rfl | rfl | rfl | rfl | rfl | rfl | rfl | rfl | rfl | rfl | rfl | rfl | rfl | rfl | rfl | rfl | rfl | rfl | rfl | rfl | rfl | rfl | rfl | rfl | rfl | rfl | rfl | rfl | rfl | rfl | rfl | rfl | rfl | rfl | rfl | rfl | rfl | rfl
                      · as_aux_lemma =>
                        obtain rfl := Option.some.inj ho
                        obtain rfl := Option.some.inj hs
                        have e7 : a.tmps.getD 7 undef = .bool true := hb7
                        exact wpOp_plain rfl rfl (u := .bool true) (fun ρ hc hf ht => by have f7 := (ht 7).trans e7; clear ht; simp [go_sem, *]) ⟨_, rfl, rfl, Below.refl _ _⟩
                      · as_aux_lemma =>
                        obtain rfl := Option.some.inj ho
                        obtain rfl := Option.some.inj hs
                        have e50 : a.tmps.getD 50 undef = .bool true := hdep 0 _ _ _ rfl rfl rfl (by kernel_rfl)
                        exact wpOp_plain rfl rfl (u := .bool true) (fun ρ hc hf ht => by have f50 := (ht 50).trans e50; clear ht; simp [go_sem, *]) ⟨_, rfl, rfl, Below.refl _ _⟩
                      · as_aux_lemma =>
                        obtain rfl := Option.some.inj ho
                        obtain rfl := Option.some.inj hs
                        have e8 : a.tmps.getD 8 undef = .pointer (some ⟨t, 0, none⟩) := hb8
                        have e51 : a.tmps.getD 51 undef = .bool true := hdep 1 _ _ _ rfl rfl rfl (by kernel_rfl)
                        exact wpOp_plain rfl (by simp [Region.wanted, yielded, got_some e51 (by omega)]) (u := .pointer (some ⟨t, 0, none⟩)) (fun ρ hc hf ht => by have f8 := (ht 8).trans e8; clear ht; simp [go_sem, *]) ⟨_, rfl, rfl, Below.refl _ _⟩
                      · as_aux_lemma =>
                        obtain rfl := Option.some.inj ho
                        obtain rfl := Option.some.inj hs
                        have e4 : a.tmps.getD 4 undef = .pointer (some ⟨w.heap.size, 0, none⟩) := hb4
                        have e51 : a.tmps.getD 51 undef = .bool true := hdep 1 _ _ _ rfl rfl rfl (by kernel_rfl)
                        exact wpOp_plain rfl (by simp [Region.wanted, yielded, got_some e51 (by omega)]) (u := .agg C) (fun ρ hc hf ht => load_row _ rfl ((ht 4).trans e4) K2.out Tryd.underlying49 (by rw [CS.out]; exact info_org)) ⟨_, rfl, rfl, Below.refl _ _⟩
                      · as_aux_lemma =>
                        obtain rfl := Option.some.inj ho
                        obtain rfl := Option.some.inj hs
                        have e52 : a.tmps.getD 52 undef = .pointer (some ⟨t, 0, none⟩) := hdep 2 _ _ _ rfl rfl rfl (by kernel_rfl)
                        have e53 : a.tmps.getD 53 undef = .agg C := hdep 3 _ _ _ rfl rfl rfl (by kernel_rfl)
                        have e51 : a.tmps.getD 51 undef = .bool true := hdep 1 _ _ _ rfl rfl rfl (by kernel_rfl)
                        refine wpOp_calls (f := 31) (args := #[.pointer (some ⟨t, 0, none⟩), .agg C]) rfl (by simp [Region.wanted, yielded, got_some e51 (by omega)]) (fun ρ hc hf ht => by have f52 := (ht 52).trans e52; have f53 := (ht 53).trans e53; clear ht; simp [go_sem, *]) ?_
                        exact (O1.out w2 hbe).mono fun e w' h => ⟨_, h.1, _, rfl, rfl, h.2⟩
                      · as_aux_lemma =>
                        obtain rfl := Option.some.inj ho
                        obtain rfl := Option.some.inj hs
                        have e9 : a.tmps.getD 9 undef = .string SX := hb9
                        have e51 : a.tmps.getD 51 undef = .bool true := hdep 1 _ _ _ rfl rfl rfl (by kernel_rfl)
                        exact wpOp_plain rfl (by simp [Region.wanted, yielded, got_some e51 (by omega)]) (u := .string SX) (fun ρ hc hf ht => by have f9 := (ht 9).trans e9; clear ht; simp [go_sem, *]) ⟨_, rfl, rfl, Below.refl _ _⟩
                      · as_aux_lemma =>
                        obtain rfl := Option.some.inj ho
                        obtain rfl := Option.some.inj hs
                        have e54 : a.tmps.getD 54 undef = .string SX := hdep 4 _ _ _ rfl rfl rfl (by kernel_rfl)
                        have e55 : a.tmps.getD 55 undef = .string SX := hdep 5 _ _ _ rfl rfl rfl (by kernel_rfl)
                        have e51 : a.tmps.getD 51 undef = .bool true := hdep 1 _ _ _ rfl rfl rfl (by kernel_rfl)
                        exact wpOp_plain rfl (by simp [Region.wanted, yielded, got_some e51 (by omega)]) (u := .bool true) (fun ρ hc hf ht => by have f54 := (ht 54).trans e54; have f55 := (ht 55).trans e55; clear ht; simp [go_sem, *]) ⟨_, rfl, rfl, Below.refl _ _⟩
                      · as_aux_lemma =>
                        obtain rfl := Option.some.inj ho
                        obtain rfl := Option.some.inj hs
                        have e51 : a.tmps.getD 51 undef = .bool true := hdep 1 _ _ _ rfl rfl rfl (by kernel_rfl)
                        have e56 : a.tmps.getD 56 undef = .bool true := hdep 6 _ _ _ rfl rfl rfl (by kernel_rfl)
                        exact wpOp_plain rfl rfl (u := .bool true) (fun ρ hc hf ht => by have f51 := (ht 51).trans e51; have f56 := (ht 56).trans e56; clear ht; simp [go_sem, *]) ⟨_, rfl, rfl, Below.refl _ _⟩
                      · as_aux_lemma =>
                        obtain rfl := Option.some.inj ho
                        obtain rfl := Option.some.inj hs
                        have e57 : a.tmps.getD 57 undef = .bool true := hdep 7 _ _ _ rfl rfl rfl (by kernel_rfl)
                        exact wpOp_plain rfl rfl (u := .bool true) (fun ρ hc hf ht => by have f57 := (ht 57).trans e57; clear ht; simp [go_sem, *]) ⟨_, rfl, rfl, Below.refl _ _⟩
                      · as_aux_lemma =>
                        obtain rfl := Option.some.inj ho
                        obtain rfl := Option.some.inj hs
                        have e8 : a.tmps.getD 8 undef = .pointer (some ⟨t, 0, none⟩) := hb8
                        have e58 : a.tmps.getD 58 undef = .bool true := hdep 8 _ _ _ rfl rfl rfl (by kernel_rfl)
                        exact wpOp_plain rfl (by simp [Region.wanted, yielded, got_some e58 (by omega)]) (u := .pointer (some ⟨t, 0, none⟩)) (fun ρ hc hf ht => by have f8 := (ht 8).trans e8; clear ht; simp [go_sem, *]) ⟨_, rfl, rfl, Below.refl _ _⟩
                      · as_aux_lemma =>
                        obtain rfl := Option.some.inj ho
                        obtain rfl := Option.some.inj hs
                        have e5 : a.tmps.getD 5 undef = .pointer (some ⟨(w.heap.size + 1), 0, none⟩) := hb5
                        have e58 : a.tmps.getD 58 undef = .bool true := hdep 8 _ _ _ rfl rfl rfl (by kernel_rfl)
                        exact wpOp_plain rfl (by simp [Region.wanted, yielded, got_some e58 (by omega)]) (u := .agg D) (fun ρ hc hf ht => load_row _ rfl ((ht 5).trans e5) J2.out Tryd.underlying49 (by rw [DS.out]; exact info_org)) ⟨_, rfl, rfl, Below.refl _ _⟩
                      · as_aux_lemma =>
                        obtain rfl := Option.some.inj ho
                        obtain rfl := Option.some.inj hs
                        have e59 : a.tmps.getD 59 undef = .pointer (some ⟨t, 0, none⟩) := hdep 9 _ _ _ rfl rfl rfl (by kernel_rfl)
                        have e60 : a.tmps.getD 60 undef = .agg D := hdep 10 _ _ _ rfl rfl rfl (by kernel_rfl)
                        have e58 : a.tmps.getD 58 undef = .bool true := hdep 8 _ _ _ rfl rfl rfl (by kernel_rfl)
                        refine wpOp_calls (f := 31) (args := #[.pointer (some ⟨t, 0, none⟩), .agg D]) rfl (by simp [Region.wanted, yielded, got_some e58 (by omega)]) (fun ρ hc hf ht => by have f59 := (ht 59).trans e59; have f60 := (ht 60).trans e60; clear ht; simp [go_sem, *]) ?_
                        exact (O2.out w2 hbe).mono fun e w' h => ⟨_, h.1, _, rfl, rfl, h.2⟩
                      · as_aux_lemma =>
                        obtain rfl := Option.some.inj ho
                        obtain rfl := Option.some.inj hs
                        have e10 : a.tmps.getD 10 undef = .string SY := hb10
                        have e58 : a.tmps.getD 58 undef = .bool true := hdep 8 _ _ _ rfl rfl rfl (by kernel_rfl)
                        exact wpOp_plain rfl (by simp [Region.wanted, yielded, got_some e58 (by omega)]) (u := .string SY) (fun ρ hc hf ht => by have f10 := (ht 10).trans e10; clear ht; simp [go_sem, *]) ⟨_, rfl, rfl, Below.refl _ _⟩
                      · as_aux_lemma =>
                        obtain rfl := Option.some.inj ho
                        obtain rfl := Option.some.inj hs
                        have e61 : a.tmps.getD 61 undef = .string SY := hdep 11 _ _ _ rfl rfl rfl (by kernel_rfl)
                        have e62 : a.tmps.getD 62 undef = .string SY := hdep 12 _ _ _ rfl rfl rfl (by kernel_rfl)
                        have e58 : a.tmps.getD 58 undef = .bool true := hdep 8 _ _ _ rfl rfl rfl (by kernel_rfl)
                        exact wpOp_plain rfl (by simp [Region.wanted, yielded, got_some e58 (by omega)]) (u := .bool true) (fun ρ hc hf ht => by have f61 := (ht 61).trans e61; have f62 := (ht 62).trans e62; clear ht; simp [go_sem, *]) ⟨_, rfl, rfl, Below.refl _ _⟩
                      · as_aux_lemma =>
                        obtain rfl := Option.some.inj ho
                        obtain rfl := Option.some.inj hs
                        have e58 : a.tmps.getD 58 undef = .bool true := hdep 8 _ _ _ rfl rfl rfl (by kernel_rfl)
                        have e63 : a.tmps.getD 63 undef = .bool true := hdep 13 _ _ _ rfl rfl rfl (by kernel_rfl)
                        exact wpOp_plain rfl rfl (u := .bool true) (fun ρ hc hf ht => by have f58 := (ht 58).trans e58; have f63 := (ht 63).trans e63; clear ht; simp [go_sem, *]) ⟨_, rfl, rfl, Below.refl _ _⟩
                      · as_aux_lemma =>
                        obtain rfl := Option.some.inj ho
                        obtain rfl := Option.some.inj hs
                        have e64 : a.tmps.getD 64 undef = .bool true := hdep 14 _ _ _ rfl rfl rfl (by kernel_rfl)
                        exact wpOp_plain rfl rfl (u := .bool true) (fun ρ hc hf ht => by have f64 := (ht 64).trans e64; clear ht; simp [go_sem, *]) ⟨_, rfl, rfl, Below.refl _ _⟩
                      · as_aux_lemma =>
                        obtain rfl := Option.some.inj ho
                        obtain rfl := Option.some.inj hs
                        have e8 : a.tmps.getD 8 undef = .pointer (some ⟨t, 0, none⟩) := hb8
                        have e65 : a.tmps.getD 65 undef = .bool true := hdep 15 _ _ _ rfl rfl rfl (by kernel_rfl)
                        exact wpOp_plain rfl (by simp [Region.wanted, yielded, got_some e65 (by omega)]) (u := .pointer (some ⟨t, 0, none⟩)) (fun ρ hc hf ht => by have f8 := (ht 8).trans e8; clear ht; simp [go_sem, *]) ⟨_, rfl, rfl, Below.refl _ _⟩
                      · as_aux_lemma =>
                        obtain rfl := Option.some.inj ho
                        obtain rfl := Option.some.inj hs
                        have e4 : a.tmps.getD 4 undef = .pointer (some ⟨w.heap.size, 0, none⟩) := hb4
                        have e65 : a.tmps.getD 65 undef = .bool true := hdep 15 _ _ _ rfl rfl rfl (by kernel_rfl)
                        exact wpOp_plain rfl (by simp [Region.wanted, yielded, got_some e65 (by omega)]) (u := .agg C) (fun ρ hc hf ht => load_row _ rfl ((ht 4).trans e4) K2.out Tryd.underlying49 (by rw [CS.out]; exact info_org)) ⟨_, rfl, rfl, Below.refl _ _⟩
                      · as_aux_lemma =>
                        obtain rfl := Option.some.inj ho
                        obtain rfl := Option.some.inj hs
                        have e5 : a.tmps.getD 5 undef = .pointer (some ⟨(w.heap.size + 1), 0, none⟩) := hb5
                        have e65 : a.tmps.getD 65 undef = .bool true := hdep 15 _ _ _ rfl rfl rfl (by kernel_rfl)
                        exact wpOp_plain rfl (by simp [Region.wanted, yielded, got_some e65 (by omega)]) (u := .agg D) (fun ρ hc hf ht => load_row _ rfl ((ht 5).trans e5) J2.out Tryd.underlying49 (by rw [DS.out]; exact info_org)) ⟨_, rfl, rfl, Below.refl _ _⟩
                      · as_aux_lemma =>
                        obtain rfl := Option.some.inj ho
                        obtain rfl := Option.some.inj hs
                        have e66 : a.tmps.getD 66 undef = .pointer (some ⟨t, 0, none⟩) := hdep 16 _ _ _ rfl rfl rfl (by kernel_rfl)
                        have e67 : a.tmps.getD 67 undef = .agg C := hdep 17 _ _ _ rfl rfl rfl (by kernel_rfl)
                        have e68 : a.tmps.getD 68 undef = .agg D := hdep 18 _ _ _ rfl rfl rfl (by kernel_rfl)
                        have e65 : a.tmps.getD 65 undef = .bool true := hdep 15 _ _ _ rfl rfl rfl (by kernel_rfl)
                        refine wpOp_calls (f := 32) (args := #[.pointer (some ⟨t, 0, none⟩), .agg C, .agg D]) rfl (by simp [Region.wanted, yielded, got_some e65 (by omega)]) (fun ρ hc hf ht => by have f66 := (ht 66).trans e66; have f67 := (ht 67).trans e67; have f68 := (ht 68).trans e68; clear ht; simp [go_sem, *]) ?_
                        exact (O3.out w2 hbe).mono fun e w' h => ⟨_, h.1, _, rfl, rfl, h.2⟩
                      · as_aux_lemma =>
                        obtain rfl := Option.some.inj ho
                        obtain rfl := Option.some.inj hs
                        have e4 : a.tmps.getD 4 undef = .pointer (some ⟨w.heap.size, 0, none⟩) := hb4
                        have e65 : a.tmps.getD 65 undef = .bool true := hdep 15 _ _ _ rfl rfl rfl (by kernel_rfl)
                        exact wpOp_plain rfl (by simp [Region.wanted, yielded, got_some e65 (by omega)]) (u := .pointer (some ⟨w.heap.size, 0, none⟩)) (fun ρ hc hf ht => by have f4 := (ht 4).trans e4; clear ht; simp [go_sem, *]) ⟨_, rfl, rfl, Below.refl _ _⟩
                      · as_aux_lemma =>
                        obtain rfl := Option.some.inj ho
                        obtain rfl := Option.some.inj hs
                        have e70 : a.tmps.getD 70 undef = .pointer (some ⟨w.heap.size, 0, none⟩) := hdep 20 _ _ _ rfl rfl rfl (by kernel_rfl)
                        have e65 : a.tmps.getD 65 undef = .bool true := hdep 15 _ _ _ rfl rfl rfl (by kernel_rfl)
                        exact wpOp_plain rfl (by simp [Region.wanted, yielded, got_some e65 (by omega)]) (u := .bool false) (fun ρ hc hf ht => by have f70 := (ht 70).trans e70; clear ht; have q0 := x0; simp [go_sem, *]) ⟨_, rfl, rfl, Below.refl _ _⟩
                      · as_aux_lemma =>
                        obtain rfl := Option.some.inj ho
                        obtain rfl := Option.some.inj hs
                        have e71 : a.tmps.getD 71 undef = .bool false := hdep 21 _ _ _ rfl rfl rfl (by kernel_rfl)
                        have e65 : a.tmps.getD 65 undef = .bool true := hdep 15 _ _ _ rfl rfl rfl (by kernel_rfl)
                        exact wpOp_plain rfl (by simp [Region.wanted, yielded, got_some e65 (by omega)]) (u := .bool true) (fun ρ hc hf ht => by have f71 := (ht 71).trans e71; clear ht; simp [go_sem, *]) ⟨_, rfl, rfl, Below.refl _ _⟩
                      · as_aux_lemma =>
                        obtain rfl := Option.some.inj ho
                        obtain rfl := Option.some.inj hs
                        have e72 : a.tmps.getD 72 undef = .bool true := hdep 22 _ _ _ rfl rfl rfl (by kernel_rfl)
                        have e65 : a.tmps.getD 65 undef = .bool true := hdep 15 _ _ _ rfl rfl rfl (by kernel_rfl)
                        exact wpOp_plain rfl (by simp [Region.wanted, yielded, got_some e65 (by omega)]) (u := .bool true) (fun ρ hc hf ht => by have f72 := (ht 72).trans e72; clear ht; simp [go_sem, *]) ⟨_, rfl, rfl, Below.refl _ _⟩
                      · as_aux_lemma =>
                        obtain rfl := Option.some.inj ho
                        obtain rfl := Option.some.inj hs
                        have e5 : a.tmps.getD 5 undef = .pointer (some ⟨(w.heap.size + 1), 0, none⟩) := hb5
                        have e73 : a.tmps.getD 73 undef = .bool true := hdep 23 _ _ _ rfl rfl rfl (by kernel_rfl)
                        exact wpOp_plain rfl (by simp [Region.wanted, yielded, got_some e73 (by omega)]) (u := .pointer (some ⟨(w.heap.size + 1), 0, none⟩)) (fun ρ hc hf ht => by have f5 := (ht 5).trans e5; clear ht; simp [go_sem, *]) ⟨_, rfl, rfl, Below.refl _ _⟩
                      · as_aux_lemma =>
                        obtain rfl := Option.some.inj ho
                        obtain rfl := Option.some.inj hs
                        have e74 : a.tmps.getD 74 undef = .pointer (some ⟨(w.heap.size + 1), 0, none⟩) := hdep 24 _ _ _ rfl rfl rfl (by kernel_rfl)
                        have e73 : a.tmps.getD 73 undef = .bool true := hdep 23 _ _ _ rfl rfl rfl (by kernel_rfl)
                        exact wpOp_plain rfl (by simp [Region.wanted, yielded, got_some e73 (by omega)]) (u := .bool false) (fun ρ hc hf ht => by have f74 := (ht 74).trans e74; clear ht; have q0 := y0; simp [go_sem, *]) ⟨_, rfl, rfl, Below.refl _ _⟩
                      · as_aux_lemma =>
                        obtain rfl := Option.some.inj ho
                        obtain rfl := Option.some.inj hs
                        have e75 : a.tmps.getD 75 undef = .bool false := hdep 25 _ _ _ rfl rfl rfl (by kernel_rfl)
                        have e73 : a.tmps.getD 73 undef = .bool true := hdep 23 _ _ _ rfl rfl rfl (by kernel_rfl)
                        exact wpOp_plain rfl (by simp [Region.wanted, yielded, got_some e73 (by omega)]) (u := .bool true) (fun ρ hc hf ht => by have f75 := (ht 75).trans e75; clear ht; simp [go_sem, *]) ⟨_, rfl, rfl, Below.refl _ _⟩
                      · as_aux_lemma =>
                        obtain rfl := Option.some.inj ho
                        obtain rfl := Option.some.inj hs
                        have e73 : a.tmps.getD 73 undef = .bool true := hdep 23 _ _ _ rfl rfl rfl (by kernel_rfl)
                        have e76 : a.tmps.getD 76 undef = .bool true := hdep 26 _ _ _ rfl rfl rfl (by kernel_rfl)
                        have e65 : a.tmps.getD 65 undef = .bool true := hdep 15 _ _ _ rfl rfl rfl (by kernel_rfl)
                        exact wpOp_plain rfl (by simp [Region.wanted, yielded, got_some e65 (by omega)]) (u := .bool true) (fun ρ hc hf ht => by have f73 := (ht 73).trans e73; have f76 := (ht 76).trans e76; clear ht; simp [go_sem, *]) ⟨_, rfl, rfl, Below.refl _ _⟩
                      · as_aux_lemma =>
                        obtain rfl := Option.some.inj ho
                        obtain rfl := Option.some.inj hs
                        have e77 : a.tmps.getD 77 undef = .bool true := hdep 27 _ _ _ rfl rfl rfl (by kernel_rfl)
                        have e65 : a.tmps.getD 65 undef = .bool true := hdep 15 _ _ _ rfl rfl rfl (by kernel_rfl)
                        exact wpOp_plain rfl (by simp [Region.wanted, yielded, got_some e65 (by omega)]) (u := .bool true) (fun ρ hc hf ht => by have f77 := (ht 77).trans e77; clear ht; simp [go_sem, *]) ⟨_, rfl, rfl, Below.refl _ _⟩
                      · as_aux_lemma =>
                        obtain rfl := Option.some.inj ho
                        obtain rfl := Option.some.inj hs
                        have e9 : a.tmps.getD 9 undef = .string SX := hb9
                        have e78 : a.tmps.getD 78 undef = .bool true := hdep 28 _ _ _ rfl rfl rfl (by kernel_rfl)
                        exact wpOp_plain rfl (by simp [Region.wanted, yielded, got_some e78 (by omega)]) (u := .string SX) (fun ρ hc hf ht => by have f9 := (ht 9).trans e9; clear ht; simp [go_sem, *]) ⟨_, rfl, rfl, Below.refl _ _⟩
                      · as_aux_lemma =>
                        obtain rfl := Option.some.inj ho
                        obtain rfl := Option.some.inj hs
                        have e10 : a.tmps.getD 10 undef = .string SY := hb10
                        have e78 : a.tmps.getD 78 undef = .bool true := hdep 28 _ _ _ rfl rfl rfl (by kernel_rfl)
                        exact wpOp_plain rfl (by simp [Region.wanted, yielded, got_some e78 (by omega)]) (u := .string SY) (fun ρ hc hf ht => by have f10 := (ht 10).trans e10; clear ht; simp [go_sem, *]) ⟨_, rfl, rfl, Below.refl _ _⟩
                      · as_aux_lemma =>
                        obtain rfl := Option.some.inj ho
                        obtain rfl := Option.some.inj hs
                        have e79 : a.tmps.getD 79 undef = .string SX := hdep 29 _ _ _ rfl rfl rfl (by kernel_rfl)
                        have e80 : a.tmps.getD 80 undef = .string SY := hdep 30 _ _ _ rfl rfl rfl (by kernel_rfl)
                        have e78 : a.tmps.getD 78 undef = .bool true := hdep 28 _ _ _ rfl rfl rfl (by kernel_rfl)
                        exact wpOp_plain rfl (by simp [Region.wanted, yielded, got_some e78 (by omega)]) (u := .bool false) (fun ρ hc hf ht => by have f79 := (ht 79).trans e79; have f80 := (ht 80).trans e80; clear ht; have q0 := HC.out; simp [go_sem, *]) ⟨_, rfl, rfl, Below.refl _ _⟩
                      · as_aux_lemma =>
                        obtain rfl := Option.some.inj ho
                        obtain rfl := Option.some.inj hs
                        have e78 : a.tmps.getD 78 undef = .bool true := hdep 28 _ _ _ rfl rfl rfl (by kernel_rfl)
                        have e81 : a.tmps.getD 81 undef = .bool false := hdep 31 _ _ _ rfl rfl rfl (by kernel_rfl)
                        have e65 : a.tmps.getD 65 undef = .bool true := hdep 15 _ _ _ rfl rfl rfl (by kernel_rfl)
                        exact wpOp_plain rfl (by simp [Region.wanted, yielded, got_some e65 (by omega)]) (u := .bool false) (fun ρ hc hf ht => by have f78 := (ht 78).trans e78; have f81 := (ht 81).trans e81; clear ht; simp [go_sem, *]) ⟨_, rfl, rfl, Below.refl _ _⟩
                      · as_aux_lemma =>
                        obtain rfl := Option.some.inj ho
                        obtain rfl := Option.some.inj hs
                        have e69 : a.tmps.getD 69 undef = .bool false := hdep 19 _ _ _ rfl rfl rfl (by kernel_rfl)
                        have e82 : a.tmps.getD 82 undef = .bool false := hdep 32 _ _ _ rfl rfl rfl (by kernel_rfl)
                        have e65 : a.tmps.getD 65 undef = .bool true := hdep 15 _ _ _ rfl rfl rfl (by kernel_rfl)
                        exact wpOp_plain rfl (by simp [Region.wanted, yielded, got_some e65 (by omega)]) (u := .bool true) (fun ρ hc hf ht => by have f69 := (ht 69).trans e69; have f82 := (ht 82).trans e82; clear ht; simp [go_sem, *]) ⟨_, rfl, rfl, Below.refl _ _⟩
                      · as_aux_lemma =>
                        obtain rfl := Option.some.inj ho
                        obtain rfl := Option.some.inj hs
                        have e65 : a.tmps.getD 65 undef = .bool true := hdep 15 _ _ _ rfl rfl rfl (by kernel_rfl)
                        have e83 : a.tmps.getD 83 undef = .bool true := hdep 33 _ _ _ rfl rfl rfl (by kernel_rfl)
                        exact wpOp_plain rfl rfl (u := .bool true) (fun ρ hc hf ht => by have f65 := (ht 65).trans e65; have f83 := (ht 83).trans e83; clear ht; simp [go_sem, *]) ⟨_, rfl, rfl, Below.refl _ _⟩
                      · as_aux_lemma =>
                        obtain rfl := Option.some.inj ho
                        obtain rfl := Option.some.inj hs
                        have e84 : a.tmps.getD 84 undef = .bool true := hdep 34 _ _ _ rfl rfl rfl (by kernel_rfl)
                        exact wpOp_plain rfl rfl (u := .bool true) (fun ρ hc hf ht => by have f84 := (ht 84).trans e84; clear ht; simp [go_sem, *]) ⟨_, rfl, rfl, Below.refl _ _⟩
                      · as_aux_lemma =>
                        obtain rfl := Option.some.inj ho
                        obtain rfl := Option.some.inj hs
                        have e8 : a.tmps.getD 8 undef = .pointer (some ⟨t, 0, none⟩) := hb8
                        have e85 : a.tmps.getD 85 undef = .bool true := hdep 35 _ _ _ rfl rfl rfl (by kernel_rfl)
                        exact wpOp_plain rfl (by simp [Region.wanted, yielded, got_some e85 (by omega)]) (u := .pointer (some ⟨t, 0, none⟩)) (fun ρ hc hf ht => by have f8 := (ht 8).trans e8; clear ht; simp [go_sem, *]) ⟨_, rfl, rfl, Below.refl _ _⟩
                      · as_aux_lemma =>
                        obtain rfl := Option.some.inj ho
                        obtain rfl := Option.some.inj hs
                        have e4 : a.tmps.getD 4 undef = .pointer (some ⟨w.heap.size, 0, none⟩) := hb4
                        have e85 : a.tmps.getD 85 undef = .bool true := hdep 35 _ _ _ rfl rfl rfl (by kernel_rfl)
                        exact wpOp_plain rfl (by simp [Region.wanted, yielded, got_some e85 (by omega)]) (u := .agg C) (fun ρ hc hf ht => load_row _ rfl ((ht 4).trans e4) K2.out Tryd.underlying49 (by rw [CS.out]; exact info_org)) ⟨_, rfl, rfl, Below.refl _ _⟩
                      · as_aux_lemma =>
                        obtain rfl := Option.some.inj ho
                        obtain rfl := Option.some.inj hs
                        have e4 : a.tmps.getD 4 undef = .pointer (some ⟨w.heap.size, 0, none⟩) := hb4
                        have e85 : a.tmps.getD 85 undef = .bool true := hdep 35 _ _ _ rfl rfl rfl (by kernel_rfl)
                        exact wpOp_plain rfl (by simp [Region.wanted, yielded, got_some e85 (by omega)]) (u := .agg C) (fun ρ hc hf ht => load_row _ rfl ((ht 4).trans e4) K2.out Tryd.underlying49 (by rw [CS.out]; exact info_org)) ⟨_, rfl, rfl, Below.refl _ _⟩
                      · as_aux_lemma =>
                        obtain rfl := Option.some.inj ho
                        obtain rfl := Option.some.inj hs
                        have e86 : a.tmps.getD 86 undef = .pointer (some ⟨t, 0, none⟩) := hdep 36 _ _ _ rfl rfl rfl (by kernel_rfl)
                        have e87 : a.tmps.getD 87 undef = .agg C := hdep 37 _ _ _ rfl rfl rfl (by kernel_rfl)
                        have e88 : a.tmps.getD 88 undef = .agg C := hdep 38 _ _ _ rfl rfl rfl (by kernel_rfl)
                        have e85 : a.tmps.getD 85 undef = .bool true := hdep 35 _ _ _ rfl rfl rfl (by kernel_rfl)
                        refine wpOp_calls (f := 32) (args := #[.pointer (some ⟨t, 0, none⟩), .agg C, .agg C]) rfl (by simp [Region.wanted, yielded, got_some e85 (by omega)]) (fun ρ hc hf ht => by have f86 := (ht 86).trans e86; have f87 := (ht 87).trans e87; have f88 := (ht 88).trans e88; clear ht; simp [go_sem, *]) ?_
                        exact (O4.out w2 hbe).mono fun e w' h => ⟨_, h.1, _, rfl, rfl, h.2⟩
                      · as_aux_lemma =>
                        obtain rfl := Option.some.inj ho
                        obtain rfl := Option.some.inj hs
                        have e4 : a.tmps.getD 4 undef = .pointer (some ⟨w.heap.size, 0, none⟩) := hb4
                        have e85 : a.tmps.getD 85 undef = .bool true := hdep 35 _ _ _ rfl rfl rfl (by kernel_rfl)
                        exact wpOp_plain rfl (by simp [Region.wanted, yielded, got_some e85 (by omega)]) (u := .pointer (some ⟨w.heap.size, 0, none⟩)) (fun ρ hc hf ht => by have f4 := (ht 4).trans e4; clear ht; simp [go_sem, *]) ⟨_, rfl, rfl, Below.refl _ _⟩
                      · as_aux_lemma =>
                        obtain rfl := Option.some.inj ho
                        obtain rfl := Option.some.inj hs
                        have e90 : a.tmps.getD 90 undef = .pointer (some ⟨w.heap.size, 0, none⟩) := hdep 40 _ _ _ rfl rfl rfl (by kernel_rfl)
                        have e85 : a.tmps.getD 85 undef = .bool true := hdep 35 _ _ _ rfl rfl rfl (by kernel_rfl)
                        exact wpOp_plain rfl (by simp [Region.wanted, yielded, got_some e85 (by omega)]) (u := .bool false) (fun ρ hc hf ht => by have f90 := (ht 90).trans e90; clear ht; have q0 := x0; simp [go_sem, *]) ⟨_, rfl, rfl, Below.refl _ _⟩
                      · as_aux_lemma =>
                        obtain rfl := Option.some.inj ho
                        obtain rfl := Option.some.inj hs
                        have e91 : a.tmps.getD 91 undef = .bool false := hdep 41 _ _ _ rfl rfl rfl (by kernel_rfl)
                        have e85 : a.tmps.getD 85 undef = .bool true := hdep 35 _ _ _ rfl rfl rfl (by kernel_rfl)
                        exact wpOp_plain rfl (by simp [Region.wanted, yielded, got_some e85 (by omega)]) (u := .bool true) (fun ρ hc hf ht => by have f91 := (ht 91).trans e91; clear ht; simp [go_sem, *]) ⟨_, rfl, rfl, Below.refl _ _⟩
                      · as_aux_lemma =>
                        obtain rfl := Option.some.inj ho
                        obtain rfl := Option.some.inj hs
                        have e89 : a.tmps.getD 89 undef = .bool true := hdep 39 _ _ _ rfl rfl rfl (by kernel_rfl)
                        have e92 : a.tmps.getD 92 undef = .bool true := hdep 42 _ _ _ rfl rfl rfl (by kernel_rfl)
                        have e85 : a.tmps.getD 85 undef = .bool true := hdep 35 _ _ _ rfl rfl rfl (by kernel_rfl)
                        exact wpOp_plain rfl (by simp [Region.wanted, yielded, got_some e85 (by omega)]) (u := .bool true) (fun ρ hc hf ht => by have f89 := (ht 89).trans e89; have f92 := (ht 92).trans e92; clear ht; simp [go_sem, *]) ⟨_, rfl, rfl, Below.refl _ _⟩
                      · as_aux_lemma =>
                        obtain rfl := Option.some.inj ho
                        obtain rfl := Option.some.inj hs
                        have e85 : a.tmps.getD 85 undef = .bool true := hdep 35 _ _ _ rfl rfl rfl (by kernel_rfl)
                        have e93 : a.tmps.getD 93 undef = .bool true := hdep 43 _ _ _ rfl rfl rfl (by kernel_rfl)
                        exact wpOp_plain rfl rfl (u := .bool true) (fun ρ hc hf ht => by have f85 := (ht 85).trans e85; have f93 := (ht 93).trans e93; clear ht; simp [go_sem, *]) ⟨_, rfl, rfl, Below.refl _ _⟩
                      · as_aux_lemma =>
                        obtain rfl := Option.some.inj ho
                        obtain rfl := Option.some.inj hs
                        have e94 : a.tmps.getD 94 undef = .bool true := hdep 44 _ _ _ rfl rfl rfl (by kernel_rfl)
                        exact wpOp_plain rfl rfl (u := .bool true) (fun ρ hc hf ht => by have f94 := (ht 94).trans e94; clear ht; simp [go_sem, *]) ⟨_, rfl, rfl, Below.refl _ _⟩
                    · intro a w2 hall hdef hbe
                      have er : a.tmps.getD 6 undef = .bool true := hall 45 _ _ _ rfl rfl rfl
                      rename_i Q9 K9 hK9
                      refine hK9 _ _ (wp_ret ?_)
                      refine bodyPost_ret (results_tmp (t := 6) rfl a.tmps _ w2) hdef ?_
                      rw [er]
                      exact ⟨rfl, belowOn Bu8.out Bu8.out.size hbe⟩
          · go_enter Tryd.func9, Tryd.ntmps9
            go_wp2_with fail
            rw [← HW.out]
            refine (HAW.out W BW.out).mono ?_
            rintro e u1 ⟨rfl, hb⟩
            have Ku1 := Lib.hid (KW.out.keep hb)
            have Ju1 := Lib.hid (JW.out.keep hb)
            have Bu1 := Lib.hid (belowOn BW.out BW.out.size hb)
            clear hb BW KW JW
            go_wp2_with fail
            refine (F1.out u1 Bu1.out).mono ?_
            rw [hf1]
            rintro e w9 ⟨rfl, rfl⟩
            have z1 := (Ku1.out.cell 3).trans C3.out
            have lt1 := Ku1.out.lt
            go_wp2_with fail
            refine (few17_calls x.h.name u1).mono ?_
            rintro e u2 ⟨rfl, hb⟩
            have Ku2 := Lib.hid (Ku1.out.keep hb)
            have Ju2 := Lib.hid (Ju1.out.keep hb)
            have Bu2 := Lib.hid (belowOn Bu1.out Bu1.out.size hb)
            clear hb Bu1 Ku1 Ju1
            clear z1 lt1
            rw [decide_eq_true n0]
            have z1 := (Ju2.out.cell 3).trans D3.out
            have lt1 := Ju2.out.lt
            go_wp2_with fail
            refine (few17_calls y.h.name u2).mono ?_
            rintro e u3 ⟨rfl, hb⟩
            have Ku3 := Lib.hid (Ku2.out.keep hb)
            have Ju3 := Lib.hid (Ju2.out.keep hb)
            have Bu3 := Lib.hid (belowOn Bu2.out Bu2.out.size hb)
            clear hb Bu2 Ku2 Ju2
            clear z1 lt1
            rw [decide_eq_true n1]
            have z1 := (Ku3.out.cell 1).trans C1.out
            have lt1 := Ku3.out.lt
            go_wp2_with fail
            refine (few17_calls x.scheme u3).mono ?_
            rintro e u4 ⟨rfl, hb⟩
            have Ku4 := Lib.hid (Ku3.out.keep hb)
            have Ju4 := Lib.hid (Ju3.out.keep hb)
            have Bu4 := Lib.hid (belowOn Bu3.out Bu3.out.size hb)
            clear hb Bu3 Ku3 Ju3
            clear z1 lt1
            rw [decide_eq_true n2]
            have z1 := (Ju4.out.cell 1).trans D1.out
            have lt1 := Ju4.out.lt
            go_wp2_with fail
            refine (few17_calls y.scheme u4).mono ?_
            rintro e u5 ⟨rfl, hb⟩
            have Ku5 := Lib.hid (Ku4.out.keep hb)
            have Ju5 := Lib.hid (Ju4.out.keep hb)
            have Bu5 := Lib.hid (belowOn Bu4.out Bu4.out.size hb)
            clear hb Bu4 Ku4 Ju4
            clear z1 lt1
            rw [decide_eq_false n3]
            go_wp2_with fail
            go_ret
            exact ⟨rfl, Bu5.out⟩
        · go_enter Tryd.func9, Tryd.ntmps9
          go_wp2_with fail
          rw [← HW.out]
          refine (HAW.out W BW.out).mono ?_
          rintro e u1 ⟨rfl, hb⟩
          have Ku1 := Lib.hid (KW.out.keep hb)
          have Ju1 := Lib.hid (JW.out.keep hb)
          have Bu1 := Lib.hid (belowOn BW.out BW.out.size hb)
          clear hb BW KW JW
          go_wp2_with fail
          refine (F1.out u1 Bu1.out).mono ?_
          rw [hf1]
          rintro e w9 ⟨rfl, rfl⟩
          have z1 := (Ku1.out.cell 3).trans C3.out
          have lt1 := Ku1.out.lt
          go_wp2_with fail
          refine (few17_calls x.h.name u1).mono ?_
          rintro e u2 ⟨rfl, hb⟩
          have Ku2 := Lib.hid (Ku1.out.keep hb)
          have Ju2 := Lib.hid (Ju1.out.keep hb)
          have Bu2 := Lib.hid (belowOn Bu1.out Bu1.out.size hb)
          clear hb Bu1 Ku1 Ju1
          clear z1 lt1
          rw [decide_eq_true n0]
          have z1 := (Ju2.out.cell 3).trans D3.out
          have lt1 := Ju2.out.lt
          go_wp2_with fail
          refine (few17_calls y.h.name u2).mono ?_
          rintro e u3 ⟨rfl, hb⟩
          have Ku3 := Lib.hid (Ku2.out.keep hb)
          have Ju3 := Lib.hid (Ju2.out.keep hb)
          have Bu3 := Lib.hid (belowOn Bu2.out Bu2.out.size hb)
          clear hb Bu2 Ku2 Ju2
          clear z1 lt1
          rw [decide_eq_true n1]
          have z1 := (Ku3.out.cell 1).trans C1.out
          have lt1 := Ku3.out.lt
          go_wp2_with fail
          refine (few17_calls x.scheme u3).mono ?_
          rintro e u4 ⟨rfl, hb⟩
          have Ku4 := Lib.hid (Ku3.out.keep hb)
          have Ju4 := Lib.hid (Ju3.out.keep hb)
          have Bu4 := Lib.hid (belowOn Bu3.out Bu3.out.size hb)
          clear hb Bu3 Ku3 Ju3
          clear z1 lt1
          rw [decide_eq_false n2]
          go_wp2_with fail
          go_ret
          exact ⟨rfl, Bu4.out⟩
      · go_enter Tryd.func9, Tryd.ntmps9
        go_wp2_with fail
        rw [← HW.out]
        refine (HAW.out W BW.out).mono ?_
        rintro e u1 ⟨rfl, hb⟩
        have Ku1 := Lib.hid (KW.out.keep hb)
        have Ju1 := Lib.hid (JW.out.keep hb)
        have Bu1 := Lib.hid (belowOn BW.out BW.out.size hb)
        clear hb BW KW JW
        go_wp2_with fail
        refine (F1.out u1 Bu1.out).mono ?_
        rw [hf1]
        rintro e w9 ⟨rfl, rfl⟩
        have z1 := (Ku1.out.cell 3).trans C3.out
        have lt1 := Ku1.out.lt
        go_wp2_with fail
        refine (few17_calls x.h.name u1).mono ?_
        rintro e u2 ⟨rfl, hb⟩
        have Ku2 := Lib.hid (Ku1.out.keep hb)
        have Ju2 := Lib.hid (Ju1.out.keep hb)
        have Bu2 := Lib.hid (belowOn Bu1.out Bu1.out.size hb)
        clear hb Bu1 Ku1 Ju1
        clear z1 lt1
        rw [decide_eq_true n0]
        have z1 := (Ju2.out.cell 3).trans D3.out
        have lt1 := Ju2.out.lt
        go_wp2_with fail
        refine (few17_calls y.h.name u2).mono ?_
        rintro e u3 ⟨rfl, hb⟩
        have Ku3 := Lib.hid (Ku2.out.keep hb)
        have Ju3 := Lib.hid (Ju2.out.keep hb)
        have Bu3 := Lib.hid (belowOn Bu2.out Bu2.out.size hb)
        clear hb Bu2 Ku2 Ju2
        clear z1 lt1
        rw [decide_eq_false n1]
        go_wp2_with fail
        go_ret
        exact ⟨rfl, Bu3.out⟩
    · go_enter Tryd.func9, Tryd.ntmps9
      go_wp2_with fail
      rw [← HW.out]
      refine (HAW.out W BW.out).mono ?_
      rintro e u1 ⟨rfl, hb⟩
      have Ku1 := Lib.hid (KW.out.keep hb)
      have Ju1 := Lib.hid (JW.out.keep hb)
      have Bu1 := Lib.hid (belowOn BW.out BW.out.size hb)
      clear hb BW KW JW
      go_wp2_with fail
      refine (F1.out u1 Bu1.out).mono ?_
      rw [hf1]
      rintro e w9 ⟨rfl, rfl⟩
      have z1 := (Ku1.out.cell 3).trans C3.out
      have lt1 := Ku1.out.lt
      go_wp2_with fail
      refine (few17_calls x.h.name u1).mono ?_
      rintro e u2 ⟨rfl, hb⟩
      have Ku2 := Lib.hid (Ku1.out.keep hb)
      have Ju2 := Lib.hid (Ju1.out.keep hb)
      have Bu2 := Lib.hid (belowOn Bu1.out Bu1.out.size hb)
      clear hb Bu1 Ku1 Ju1
      clear z1 lt1
      rw [decide_eq_false n0]
      go_wp2_with fail
      go_ret
      exact ⟨rfl, Bu2.out⟩
end Go.Proofs.YtgljkgkmbfhgiaaDoor
