/- RecordTexts, walked. -/
import Derived.Test.YtgljkgkmbfhgiaaDoorRecAwake
import Derived.Test.YtgljkgkmbfhgiaaDoorRecRefText
set_option linter.unusedVariables false
set_option linter.unusedSimpArgs false
set_option maxRecDepth 100000
namespace Go.Proofs.YtgljkgkmbfhgiaaDoor
open Go.RowKit Four Six Rec

set_option maxHeartbeats 4000000 in
theorem texts12_calls (u : UrlV) (A : Option Addr) (c : Nat) (bare : Bool) (ho : u.ok) (w : World) (hF : FW w) (hr : RowAt textC 1 w A u.path) (hc : u.path.length ≤ c) (hm : c ≤ maxLen) :
    Calls Tryd.prog 3 #[.agg (u.cells A c).toArray, .bool bare] w fun e w' => e = .returned (.bool true) ∧ Below w.heap.size w w' := by
  have HF := Lib.hid hF
  have HFEW := Lib.hid (fun (W : World) (hb : Below w.heap.size w W) => few_calls u A c W (hr.keep hb) hc hm)
  have HTX := Lib.hid (fun (hs : u.short) (W : World) (hb : Below w.heap.size w W) => urltext_calls u A c bare ho hs W (hF.keep hb) (hr.keep hb) hc)
  have HRT := Lib.hid (fun (hs : u.short) (W : World) (hb : Below w.heap.size w W) => reftext12_calls u A c bare ho hs W (hr.keep hb) hc)
  have HPX := Lib.hid (fun (hs : u.short) (W : World) (hb : Below w.heap.size w W) => pathU_calls u A c hs W (hr.keep hb) hc)
  have HRP := Lib.hid (fun (hs : u.short) (W : World) (hb : Below w.heap.size w W) => refpathU_calls u A c hs W (hr.keep hb) hc)
  obtain ⟨CU, hCU⟩ : ∃ CU, CU = (u.cells A c).toArray := ⟨_, rfl⟩
  have HSZ := Lib.hid (show CU.size = 21 by rw [hCU]; rfl)
  rw [← hCU] at HFEW HTX HRT HPX HRP ⊢
  clear hCU hr hc hm ho hF
  go_enter Tryd.func3, Tryd.ntmps3
  go_upto_region 1 with fail
  have K0 := Lib.hid (Blk.new w 29 CU)
  have B0 := Lib.hid ((Below.refl w.heap.size w).alloc (Nat.le_refl _) (.cells CU 29))
  go_wp2_with fail
  refine (awake_calls (HF.out.keep B0.out)).mono ?_
  rintro e w1 ⟨rfl, hb⟩
  have K1 := Lib.hid (K0.out.keep hb)
  have B1 := Lib.hid (belowOn B0.out B0.out.size hb)
  clear hb K0 B0
  go_wp2_with (with_reducible refine stopLoad ?_)
  refine stopN_go ?_
  refine wpList_load_url (Blk.range K1.out) HSZ.out rfl _ rfl rfl ?_
  obtain ⟨F, hFF⟩ : ∃ F, F = u.few := ⟨_, rfl⟩
  rw [← hFF] at HFEW
  have HFF := Lib.hid hFF
  clear hFF
  cases F
  · go_wp2_with fail
    refine (HFEW.out _ B1.out).mono ?_
    rintro e w2 ⟨rfl, hb⟩
    have B2 := Lib.hid (belowOn B1.out B1.out.size hb)
    clear hb
    go_wp2_with fail
    go_ret
    exact ⟨rfl, B2.out⟩
  · have HT := Lib.hid (HTX.out ((UrlV.few_iff u).1 HFF.out.symm))
    have HR := Lib.hid (HRT.out ((UrlV.few_iff u).1 HFF.out.symm))
    have HP := Lib.hid (HPX.out ((UrlV.few_iff u).1 HFF.out.symm))
    have HQ := Lib.hid (HRP.out ((UrlV.few_iff u).1 HFF.out.symm))
    obtain ⟨T, hT⟩ : ∃ T, T = mkB (textU u bare) := ⟨_, rfl⟩
    obtain ⟨PT, hPT⟩ : ∃ T, T = mkB (pathU u) := ⟨_, rfl⟩
    rw [← hT] at HT HR
    rw [← hPT] at HP HQ
    clear HTX HRT HPX HRP HFF hT hPT
    go_wp2_with fail
    refine (HFEW.out _ B1.out).mono ?_
    rintro e w3 ⟨rfl, hb⟩
    have KU := Lib.hid (K1.out.keep hb)
    have HB := Lib.hid (belowOn B1.out B1.out.size hb)
    clear hb HFEW K1 B1
    go_wp2_with fail
    refine wp_region_RI [.is (.bool true), .is (.bool true), .is (.agg CU), .is (.bool bare), .is (.string T), .is (.agg CU), .is (.bool bare), .is (.string T), .is (.bool true), .is (.bool true), .is (.bool true), .is (.agg CU), .is (.string PT), .is (.agg CU), .is (.string PT), .is (.bool true), .is (.bool true), .is (.bool true)] (by kernel_rfl) (by kernel_rfl) (by kernel_rfl) ?_ ?_
    · intro i o sp ho hs a w2 hbe htz hkept hdep
      have hi : i < 18 := (Array.getElem?_eq_some_iff.1 ho).1
      have hsz : a.tmps.size = 28 := htz
      have KW := KU.out.keep hbe
      have hb2 : a.tmps.getD 2 undef = .pointer (some ⟨w.heap.size, 0, none⟩) := hkept 2 (noDst_spec (by kernel_rfl))
      have hb5 : a.tmps.getD 5 undef = .bool true := hkept 5 (noDst_spec (by kernel_rfl))
      have hb1 : a.tmps.getD 1 undef = .bool bare := hkept 1 (noDst_spec (by kernel_rfl))
      rcases (by omega : i = 0 ∨ i = 1 ∨ i = 2 ∨ i = 3 ∨ i = 4 ∨ i = 5 ∨ i = 6 ∨ i = 7 ∨ i = 8 ∨ i = 9 ∨ i = 10 ∨ i = 11 ∨ i = 12 ∨ i = 13 ∨ i = 14 ∨ i = 15 ∨ i = 16 ∨ i = 17) with rfl | rfl | rfl | rfl | rfl | rfl | rfl | rfl | rfl | rfl | rfl | rfl | rfl | rfl | rfl | rfl | rfl | rfl
      · as_aux_lemma =>
        obtain rfl := Option.some.inj ho
        obtain rfl := Option.some.inj hs
        have e5 : a.tmps.getD 5 undef = .bool true := hb5
        exact wpOp_plain rfl rfl (u := .bool true) (fun ρ hc hf ht => by have f5 := (ht 5).trans e5; clear ht; simp [go_sem, *]) ⟨_, rfl, rfl, Below.refl _ _⟩
      · as_aux_lemma =>
        obtain rfl := Option.some.inj ho
        obtain rfl := Option.some.inj hs
        have e11 : a.tmps.getD 11 undef = .bool true := hdep 0 _ _ _ rfl rfl rfl (by kernel_rfl)
        exact wpOp_plain rfl rfl (u := .bool true) (fun ρ hc hf ht => by have f11 := (ht 11).trans e11; clear ht; simp [go_sem, *]) ⟨_, rfl, rfl, Below.refl _ _⟩
      · as_aux_lemma =>
        obtain rfl := Option.some.inj ho
        obtain rfl := Option.some.inj hs
        have e2 : a.tmps.getD 2 undef = .pointer (some ⟨w.heap.size, 0, none⟩) := hb2
        have e12 : a.tmps.getD 12 undef = .bool true := hdep 1 _ _ _ rfl rfl rfl (by kernel_rfl)
        exact wpOp_plain rfl (by simp [Region.wanted, yielded, got_some e12 (by omega)]) (u := .agg CU) (fun ρ hc hf ht => load_row _ rfl ((ht 2).trans e2) KW Tryd.underlying29 (by rw [HSZ.out]; exact info_url)) ⟨_, rfl, rfl, Below.refl _ _⟩
      · as_aux_lemma =>
        obtain rfl := Option.some.inj ho
        obtain rfl := Option.some.inj hs
        have e1 : a.tmps.getD 1 undef = .bool bare := hb1
        have e12 : a.tmps.getD 12 undef = .bool true := hdep 1 _ _ _ rfl rfl rfl (by kernel_rfl)
        exact wpOp_plain rfl (by simp [Region.wanted, yielded, got_some e12 (by omega)]) (u := .bool bare) (fun ρ hc hf ht => by have f1 := (ht 1).trans e1; clear ht; simp [go_sem, *]) ⟨_, rfl, rfl, Below.refl _ _⟩
      · as_aux_lemma =>
        obtain rfl := Option.some.inj ho
        obtain rfl := Option.some.inj hs
        have e13 : a.tmps.getD 13 undef = .agg CU := hdep 2 _ _ _ rfl rfl rfl (by kernel_rfl)
        have e14 : a.tmps.getD 14 undef = .bool bare := hdep 3 _ _ _ rfl rfl rfl (by kernel_rfl)
        have e12 : a.tmps.getD 12 undef = .bool true := hdep 1 _ _ _ rfl rfl rfl (by kernel_rfl)
        refine wpOp_calls (f := 15) (args := #[.agg CU, .bool bare]) rfl (by simp [Region.wanted, yielded, got_some e12 (by omega)]) (fun ρ hc hf ht => by have f13 := (ht 13).trans e13; have f14 := (ht 14).trans e14; clear ht; simp [go_sem, *]) ?_
        exact (HT.out w2 (belowOn HB.out HB.out.size hbe)).mono fun e w' h => ⟨_, h.1, _, rfl, rfl, h.2⟩
      · as_aux_lemma =>
        obtain rfl := Option.some.inj ho
        obtain rfl := Option.some.inj hs
        have e2 : a.tmps.getD 2 undef = .pointer (some ⟨w.heap.size, 0, none⟩) := hb2
        have e12 : a.tmps.getD 12 undef = .bool true := hdep 1 _ _ _ rfl rfl rfl (by kernel_rfl)
        exact wpOp_plain rfl (by simp [Region.wanted, yielded, got_some e12 (by omega)]) (u := .agg CU) (fun ρ hc hf ht => load_row _ rfl ((ht 2).trans e2) KW Tryd.underlying29 (by rw [HSZ.out]; exact info_url)) ⟨_, rfl, rfl, Below.refl _ _⟩
      · as_aux_lemma =>
        obtain rfl := Option.some.inj ho
        obtain rfl := Option.some.inj hs
        have e1 : a.tmps.getD 1 undef = .bool bare := hb1
        have e12 : a.tmps.getD 12 undef = .bool true := hdep 1 _ _ _ rfl rfl rfl (by kernel_rfl)
        exact wpOp_plain rfl (by simp [Region.wanted, yielded, got_some e12 (by omega)]) (u := .bool bare) (fun ρ hc hf ht => by have f1 := (ht 1).trans e1; clear ht; simp [go_sem, *]) ⟨_, rfl, rfl, Below.refl _ _⟩
      · as_aux_lemma =>
        obtain rfl := Option.some.inj ho
        obtain rfl := Option.some.inj hs
        have e16 : a.tmps.getD 16 undef = .agg CU := hdep 5 _ _ _ rfl rfl rfl (by kernel_rfl)
        have e17 : a.tmps.getD 17 undef = .bool bare := hdep 6 _ _ _ rfl rfl rfl (by kernel_rfl)
        have e12 : a.tmps.getD 12 undef = .bool true := hdep 1 _ _ _ rfl rfl rfl (by kernel_rfl)
        refine wpOp_calls (f := 16) (args := #[.agg CU, .bool bare]) rfl (by simp [Region.wanted, yielded, got_some e12 (by omega)]) (fun ρ hc hf ht => by have f16 := (ht 16).trans e16; have f17 := (ht 17).trans e17; clear ht; simp [go_sem, *]) ?_
        exact (HR.out w2 (belowOn HB.out HB.out.size hbe)).mono fun e w' h => ⟨_, h.1, _, rfl, rfl, h.2⟩
      · as_aux_lemma =>
        obtain rfl := Option.some.inj ho
        obtain rfl := Option.some.inj hs
        have e15 : a.tmps.getD 15 undef = .string T := hdep 4 _ _ _ rfl rfl rfl (by kernel_rfl)
        have e18 : a.tmps.getD 18 undef = .string T := hdep 7 _ _ _ rfl rfl rfl (by kernel_rfl)
        have e12 : a.tmps.getD 12 undef = .bool true := hdep 1 _ _ _ rfl rfl rfl (by kernel_rfl)
        exact wpOp_plain rfl (by simp [Region.wanted, yielded, got_some e12 (by omega)]) (u := .bool true) (fun ρ hc hf ht => by have f15 := (ht 15).trans e15; have f18 := (ht 18).trans e18; clear ht; simp [go_sem, *]) ⟨_, rfl, rfl, Below.refl _ _⟩
      · as_aux_lemma =>
        obtain rfl := Option.some.inj ho
        obtain rfl := Option.some.inj hs
        have e12 : a.tmps.getD 12 undef = .bool true := hdep 1 _ _ _ rfl rfl rfl (by kernel_rfl)
        have e19 : a.tmps.getD 19 undef = .bool true := hdep 8 _ _ _ rfl rfl rfl (by kernel_rfl)
        exact wpOp_plain rfl rfl (u := .bool true) (fun ρ hc hf ht => by have f12 := (ht 12).trans e12; have f19 := (ht 19).trans e19; clear ht; simp [go_sem, *]) ⟨_, rfl, rfl, Below.refl _ _⟩
      · as_aux_lemma =>
        obtain rfl := Option.some.inj ho
        obtain rfl := Option.some.inj hs
        have e20 : a.tmps.getD 20 undef = .bool true := hdep 9 _ _ _ rfl rfl rfl (by kernel_rfl)
        exact wpOp_plain rfl rfl (u := .bool true) (fun ρ hc hf ht => by have f20 := (ht 20).trans e20; clear ht; simp [go_sem, *]) ⟨_, rfl, rfl, Below.refl _ _⟩
      · as_aux_lemma =>
        obtain rfl := Option.some.inj ho
        obtain rfl := Option.some.inj hs
        have e2 : a.tmps.getD 2 undef = .pointer (some ⟨w.heap.size, 0, none⟩) := hb2
        have e21 : a.tmps.getD 21 undef = .bool true := hdep 10 _ _ _ rfl rfl rfl (by kernel_rfl)
        exact wpOp_plain rfl (by simp [Region.wanted, yielded, got_some e21 (by omega)]) (u := .agg CU) (fun ρ hc hf ht => load_row _ rfl ((ht 2).trans e2) KW Tryd.underlying29 (by rw [HSZ.out]; exact info_url)) ⟨_, rfl, rfl, Below.refl _ _⟩
      · as_aux_lemma =>
        obtain rfl := Option.some.inj ho
        obtain rfl := Option.some.inj hs
        have e22 : a.tmps.getD 22 undef = .agg CU := hdep 11 _ _ _ rfl rfl rfl (by kernel_rfl)
        have e21 : a.tmps.getD 21 undef = .bool true := hdep 10 _ _ _ rfl rfl rfl (by kernel_rfl)
        refine wpOp_calls (f := 17) (args := #[.agg CU]) rfl (by simp [Region.wanted, yielded, got_some e21 (by omega)]) (fun ρ hc hf ht => by have f22 := (ht 22).trans e22; clear ht; simp [go_sem, *]) ?_
        exact (HP.out w2 (belowOn HB.out HB.out.size hbe)).mono fun e w' h => ⟨_, h.1, _, rfl, rfl, h.2⟩
      · as_aux_lemma =>
        obtain rfl := Option.some.inj ho
        obtain rfl := Option.some.inj hs
        have e2 : a.tmps.getD 2 undef = .pointer (some ⟨w.heap.size, 0, none⟩) := hb2
        have e21 : a.tmps.getD 21 undef = .bool true := hdep 10 _ _ _ rfl rfl rfl (by kernel_rfl)
        exact wpOp_plain rfl (by simp [Region.wanted, yielded, got_some e21 (by omega)]) (u := .agg CU) (fun ρ hc hf ht => load_row _ rfl ((ht 2).trans e2) KW Tryd.underlying29 (by rw [HSZ.out]; exact info_url)) ⟨_, rfl, rfl, Below.refl _ _⟩
      · as_aux_lemma =>
        obtain rfl := Option.some.inj ho
        obtain rfl := Option.some.inj hs
        have e24 : a.tmps.getD 24 undef = .agg CU := hdep 13 _ _ _ rfl rfl rfl (by kernel_rfl)
        have e21 : a.tmps.getD 21 undef = .bool true := hdep 10 _ _ _ rfl rfl rfl (by kernel_rfl)
        refine wpOp_calls (f := 18) (args := #[.agg CU]) rfl (by simp [Region.wanted, yielded, got_some e21 (by omega)]) (fun ρ hc hf ht => by have f24 := (ht 24).trans e24; clear ht; simp [go_sem, *]) ?_
        exact (HQ.out w2 (belowOn HB.out HB.out.size hbe)).mono fun e w' h => ⟨_, h.1, _, rfl, rfl, h.2⟩
      · as_aux_lemma =>
        obtain rfl := Option.some.inj ho
        obtain rfl := Option.some.inj hs
        have e23 : a.tmps.getD 23 undef = .string PT := hdep 12 _ _ _ rfl rfl rfl (by kernel_rfl)
        have e25 : a.tmps.getD 25 undef = .string PT := hdep 14 _ _ _ rfl rfl rfl (by kernel_rfl)
        have e21 : a.tmps.getD 21 undef = .bool true := hdep 10 _ _ _ rfl rfl rfl (by kernel_rfl)
        exact wpOp_plain rfl (by simp [Region.wanted, yielded, got_some e21 (by omega)]) (u := .bool true) (fun ρ hc hf ht => by have f23 := (ht 23).trans e23; have f25 := (ht 25).trans e25; clear ht; simp [go_sem, *]) ⟨_, rfl, rfl, Below.refl _ _⟩
      · as_aux_lemma =>
        obtain rfl := Option.some.inj ho
        obtain rfl := Option.some.inj hs
        have e21 : a.tmps.getD 21 undef = .bool true := hdep 10 _ _ _ rfl rfl rfl (by kernel_rfl)
        have e26 : a.tmps.getD 26 undef = .bool true := hdep 15 _ _ _ rfl rfl rfl (by kernel_rfl)
        exact wpOp_plain rfl rfl (u := .bool true) (fun ρ hc hf ht => by have f21 := (ht 21).trans e21; have f26 := (ht 26).trans e26; clear ht; simp [go_sem, *]) ⟨_, rfl, rfl, Below.refl _ _⟩
      · as_aux_lemma =>
        obtain rfl := Option.some.inj ho
        obtain rfl := Option.some.inj hs
        have e27 : a.tmps.getD 27 undef = .bool true := hdep 16 _ _ _ rfl rfl rfl (by kernel_rfl)
        exact wpOp_plain rfl rfl (u := .bool true) (fun ρ hc hf ht => by have f27 := (ht 27).trans e27; clear ht; simp [go_sem, *]) ⟨_, rfl, rfl, Below.refl _ _⟩
    · intro a w2 hall hdef hbe
      have er : a.tmps.getD 4 undef = .bool true := hall 17 _ _ _ rfl rfl rfl
      rename_i Q9 K9 hK9
      refine hK9 _ _ (wp_ret ?_)
      refine bodyPost_ret (results_tmp (t := 4) rfl a.tmps _ w2) hdef ?_
      rw [er]
      exact ⟨rfl, belowOn HB.out HB.out.size hbe⟩
end Go.Proofs.YtgljkgkmbfhgiaaDoor
