/- RecordSame, walked. -/
import Derived.Test.YtgljkgkmbfhgiaaDoorRecAwake
set_option linter.unusedVariables false
set_option linter.unusedSimpArgs false
set_option maxRecDepth 100000
namespace Go.Proofs.YtgljkgkmbfhgiaaDoor
open Go.RowKit Four Six Rec

theorem sameV_comm (a b : UrlV) : sameV a b = sameV b a := by
  rw [Bool.eq_iff_iff, sameV_iff, sameV_iff]
  exact eq_comm
set_option maxHeartbeats 4000000 in
theorem same12_calls (u : UrlV) (A : Option Addr) (c : Nat) (v : UrlV) (A' : Option Addr) (c' : Nat) (ho : u.ok) (ho' : v.ok) (w : World) (hF : FW w) (hr : RowAt textC 1 w A u.path) (hr' : RowAt textC 1 w A' v.path) (hc : u.path.length ≤ c) (hm : c ≤ maxLen) (hc' : v.path.length ≤ c') (hm' : c' ≤ maxLen) :
    Calls Tryd.prog 4 #[.agg (u.cells A c).toArray, .agg (v.cells A' c').toArray] w fun e w' => e = .returned (.bool true) ∧ Below w.heap.size w w' := by
  have HF := Lib.hid hF
  have HFU := Lib.hid (fun (W : World) (hb : Below w.heap.size w W) => few_calls u A c W (hr.keep hb) hc hm)
  have HFV := Lib.hid (fun (W : World) (hb : Below w.heap.size w W) => few_calls v A' c' W (hr'.keep hb) hc' hm')
  have HUV := Lib.hid (fun (hs : u.short) (hs' : v.short) (W : World) (hb : Below w.heap.size w W) => same_calls u v A c A' c' ho ho' hs hs' W (hr.keep hb) (hr'.keep hb) hc hc')
  have HVU := Lib.hid (fun (hs : u.short) (hs' : v.short) (W : World) (hb : Below w.heap.size w W) => same_calls v u A' c' A c ho' ho hs' hs W (hr'.keep hb) (hr.keep hb) hc' hc)
  have HUU := Lib.hid (fun (hs : u.short) (W : World) (hb : Below w.heap.size w W) => same_calls u u A c A c ho ho hs hs W (hr.keep hb) (hr.keep hb) hc hc)
  have HRV := Lib.hid (fun (hs : u.short) (hs' : v.short) (W : World) (hb : Below w.heap.size w W) => refsame_calls u v A c A' c' ho ho' hs hs' W (hr.keep hb) (hr'.keep hb) hc hc')
  obtain ⟨CU, hCU⟩ : ∃ CU, CU = (u.cells A c).toArray := ⟨_, rfl⟩
  obtain ⟨CV, hCV⟩ : ∃ CV, CV = (v.cells A' c').toArray := ⟨_, rfl⟩
  have HSZ := Lib.hid (show CU.size = 21 by rw [hCU]; rfl)
  have HSV := Lib.hid (show CV.size = 21 by rw [hCV]; rfl)
  rw [← hCU] at HFU HUV HVU HUU HRV ⊢
  rw [← hCV] at HFV HUV HVU HRV ⊢
  simp only [sameV_comm v u] at HVU
  simp only [show sameV u u = true from sameV_iff.2 rfl] at HUU
  generalize sameV u v = X at HUV HVU HRV
  clear hCU hCV hr hr' hc hc' hm hm' ho ho' hF
  obtain ⟨F, hFF⟩ : ∃ F, F = u.few := ⟨_, rfl⟩
  obtain ⟨G, hGG⟩ : ∃ G, G = v.few := ⟨_, rfl⟩
  rw [← hFF] at HFU
  rw [← hGG] at HFV
  have HFF := Lib.hid hFF
  have HGG := Lib.hid hGG
  clear hFF hGG
  go_enter Tryd.func4, Tryd.ntmps4
  go_upto_region 1 with fail
  have K0 := Lib.hid ((Blk.new w 29 CU).alloc (.cells CV 29))
  have L0 := Lib.hid (show Blk ((w.alloc (.cells CU 29)).alloc (.cells CV 29)) (w.heap.size + 1) 29 CV by have := Blk.new (w.alloc (.cells CU 29)) 29 CV; rw [show (w.alloc (.cells CU 29)).heap.size = w.heap.size + 1 by simp] at this; exact this)
  have B0 := Lib.hid (((Below.refl w.heap.size w).alloc (Nat.le_refl _) (.cells CU 29)).alloc (by simp) (.cells CV 29))
  go_wp2_with fail
  refine (awake_calls (HF.out.keep B0.out)).mono ?_
  rintro e w1 ⟨rfl, hb⟩
  have K1 := Lib.hid (K0.out.keep hb)
  have L1 := Lib.hid (L0.out.keep hb)
  have B1 := Lib.hid (belowOn B0.out B0.out.size hb)
  clear hb K0 L0 B0
  go_wp2_with (with_reducible refine stopLoad ?_)
  refine stopN_go ?_
  refine wpList_load_url (Blk.range K1.out) HSZ.out rfl _ rfl rfl ?_
  cases F
  · go_wp2_with fail
    refine (HFU.out _ B1.out).mono ?_
    rintro e w2 ⟨rfl, hb⟩
    have B2 := Lib.hid (belowOn B1.out B1.out.size hb)
    clear hb
    go_wp2_with fail
    go_ret
    exact ⟨rfl, B2.out⟩
  · go_wp2_with fail
    refine (HFU.out _ B1.out).mono ?_
    rintro e w2 ⟨rfl, hb⟩
    have K2 := Lib.hid (K1.out.keep hb)
    have L2 := Lib.hid (L1.out.keep hb)
    have B2 := Lib.hid (belowOn B1.out B1.out.size hb)
    clear hb K1 L1 B1
    go_wp2_with (with_reducible refine stopLoad ?_)
    refine stopN_go ?_
    refine wpList_load_urlG (Blk.range L2.out) HSV.out _ rfl rfl (by kernel_rfl) ?_
    cases G
    · go_wp2_with fail
      refine (HFV.out _ B2.out).mono ?_
      rintro e w3 ⟨rfl, hb⟩
      have B3 := Lib.hid (belowOn B2.out B2.out.size hb)
      clear hb
      go_wp2_with fail
      go_ret
      exact ⟨rfl, B3.out⟩
    · have S1 := Lib.hid (HUV.out ((UrlV.few_iff u).1 HFF.out.symm) ((UrlV.few_iff v).1 HGG.out.symm))
      have S2 := Lib.hid (HVU.out ((UrlV.few_iff u).1 HFF.out.symm) ((UrlV.few_iff v).1 HGG.out.symm))
      have S3 := Lib.hid (HUU.out ((UrlV.few_iff u).1 HFF.out.symm))
      have S4 := Lib.hid (HRV.out ((UrlV.few_iff u).1 HFF.out.symm) ((UrlV.few_iff v).1 HGG.out.symm))
      clear HUV HVU HUU HRV HFF HGG
      go_wp2_with fail
      refine (HFV.out _ B2.out).mono ?_
      rintro e w3 ⟨rfl, hb⟩
      have KU := Lib.hid (K2.out.keep hb)
      have KV := Lib.hid (L2.out.keep hb)
      have HB := Lib.hid (belowOn B2.out B2.out.size hb)
      clear hb HFU HFV K2 L2 B2
      go_wp2_with fail
      refine wp_region_RI [.is (.bool true), .is (.bool true), .is (.agg CU), .is (.agg CV), .is (.bool X), .is (.agg CU), .is (.agg CV), .is (.bool X), .is (.bool true), .is (.bool true), .is (.bool true), .is (.agg CU), .is (.agg CU), .is (.bool true), .is (.bool true), .is (.bool true), .is (.agg CU), .is (.agg CV), .is (.bool X), .is (.agg CV), .is (.agg CU), .is (.bool X), .is (.bool true), .is (.bool true), .is (.bool true)] (by kernel_rfl) (by kernel_rfl) (by kernel_rfl) ?_ ?_
      · intro i o sp ho hs a w2 hbe htz hkept hdep
        have hi : i < 25 := (Array.getElem?_eq_some_iff.1 ho).1
        have hsz : a.tmps.size = 40 := htz
        have KW := KU.out.keep hbe
        have LW := KV.out.keep hbe
        have hb2 : a.tmps.getD 2 undef = .pointer (some ⟨w.heap.size, 0, none⟩) := hkept 2 (noDst_spec (by kernel_rfl))
        have hb3 : a.tmps.getD 3 undef = .pointer (some ⟨w.heap.size + 1, 0, none⟩) := hkept 3 (noDst_spec (by kernel_rfl))
        have hb5 : a.tmps.getD 5 undef = .bool true := hkept 5 (noDst_spec (by kernel_rfl))
        rcases (by omega : i = 0 ∨ i = 1 ∨ i = 2 ∨ i = 3 ∨ i = 4 ∨ i = 5 ∨ i = 6 ∨ i = 7 ∨ i = 8 ∨ i = 9 ∨ i = 10 ∨ i = 11 ∨ i = 12 ∨ i = 13 ∨ i = 14 ∨ i = 15 ∨ i = 16 ∨ i = 17 ∨ i = 18 ∨ i = 19 ∨ i = 20 ∨ i = 21 ∨ i = 22 ∨ i = 23 ∨ i = 24) with rfl | rfl | rfl | rfl | rfl | rfl | rfl | rfl | rfl | rfl | rfl | rfl | rfl | rfl | rfl | rfl | rfl | rfl | rfl | rfl | rfl | rfl | rfl | rfl | rfl
        · as_aux_lemma =>
          obtain rfl := Option.some.inj ho
          obtain rfl := Option.some.inj hs
          have e5 : a.tmps.getD 5 undef = .bool true := hb5
          exact wpOp_plain rfl rfl (u := .bool true) (fun ρ hc hf ht => by have f5 := (ht 5).trans e5; clear ht; simp [go_sem, *]) ⟨_, rfl, rfl, Below.refl _ _⟩
        · as_aux_lemma =>
          obtain rfl := Option.some.inj ho
          obtain rfl := Option.some.inj hs
          have e16 : a.tmps.getD 16 undef = .bool true := hdep 0 _ _ _ rfl rfl rfl (by kernel_rfl)
          exact wpOp_plain rfl rfl (u := .bool true) (fun ρ hc hf ht => by have f16 := (ht 16).trans e16; clear ht; simp [go_sem, *]) ⟨_, rfl, rfl, Below.refl _ _⟩
        · as_aux_lemma =>
          obtain rfl := Option.some.inj ho
          obtain rfl := Option.some.inj hs
          have e2 : a.tmps.getD 2 undef = .pointer (some ⟨w.heap.size, 0, none⟩) := hb2
          have e17 : a.tmps.getD 17 undef = .bool true := hdep 1 _ _ _ rfl rfl rfl (by kernel_rfl)
          exact wpOp_plain rfl (by simp [Region.wanted, yielded, got_some e17 (by omega)]) (u := .agg CU) (fun ρ hc hf ht => load_row _ rfl ((ht 2).trans e2) KW Tryd.underlying29 (by rw [HSZ.out]; exact info_url)) ⟨_, rfl, rfl, Below.refl _ _⟩
        · as_aux_lemma =>
          obtain rfl := Option.some.inj ho
          obtain rfl := Option.some.inj hs
          have e3 : a.tmps.getD 3 undef = .pointer (some ⟨w.heap.size + 1, 0, none⟩) := hb3
          have e17 : a.tmps.getD 17 undef = .bool true := hdep 1 _ _ _ rfl rfl rfl (by kernel_rfl)
          exact wpOp_plain rfl (by simp [Region.wanted, yielded, got_some e17 (by omega)]) (u := .agg CV) (fun ρ hc hf ht => load_row _ rfl ((ht 3).trans e3) LW Tryd.underlying29 (by rw [HSV.out]; exact info_url)) ⟨_, rfl, rfl, Below.refl _ _⟩
        · as_aux_lemma =>
          obtain rfl := Option.some.inj ho
          obtain rfl := Option.some.inj hs
          have e18 : a.tmps.getD 18 undef = .agg CU := hdep 2 _ _ _ rfl rfl rfl (by kernel_rfl)
          have e19 : a.tmps.getD 19 undef = .agg CV := hdep 3 _ _ _ rfl rfl rfl (by kernel_rfl)
          have e17 : a.tmps.getD 17 undef = .bool true := hdep 1 _ _ _ rfl rfl rfl (by kernel_rfl)
          refine wpOp_calls (f := 19) (args := #[.agg CU, .agg CV]) rfl (by simp [Region.wanted, yielded, got_some e17 (by omega)]) (fun ρ hc hf ht => by have f18 := (ht 18).trans e18; have f19 := (ht 19).trans e19; clear ht; simp [go_sem, *]) ?_
          exact (S1.out w2 (belowOn HB.out HB.out.size hbe)).mono fun e w' h => ⟨_, h.1, _, rfl, rfl, h.2⟩
        · as_aux_lemma =>
          obtain rfl := Option.some.inj ho
          obtain rfl := Option.some.inj hs
          have e2 : a.tmps.getD 2 undef = .pointer (some ⟨w.heap.size, 0, none⟩) := hb2
          have e17 : a.tmps.getD 17 undef = .bool true := hdep 1 _ _ _ rfl rfl rfl (by kernel_rfl)
          exact wpOp_plain rfl (by simp [Region.wanted, yielded, got_some e17 (by omega)]) (u := .agg CU) (fun ρ hc hf ht => load_row _ rfl ((ht 2).trans e2) KW Tryd.underlying29 (by rw [HSZ.out]; exact info_url)) ⟨_, rfl, rfl, Below.refl _ _⟩
        · as_aux_lemma =>
          obtain rfl := Option.some.inj ho
          obtain rfl := Option.some.inj hs
          have e3 : a.tmps.getD 3 undef = .pointer (some ⟨w.heap.size + 1, 0, none⟩) := hb3
          have e17 : a.tmps.getD 17 undef = .bool true := hdep 1 _ _ _ rfl rfl rfl (by kernel_rfl)
          exact wpOp_plain rfl (by simp [Region.wanted, yielded, got_some e17 (by omega)]) (u := .agg CV) (fun ρ hc hf ht => load_row _ rfl ((ht 3).trans e3) LW Tryd.underlying29 (by rw [HSV.out]; exact info_url)) ⟨_, rfl, rfl, Below.refl _ _⟩
        · as_aux_lemma =>
          obtain rfl := Option.some.inj ho
          obtain rfl := Option.some.inj hs
          have e21 : a.tmps.getD 21 undef = .agg CU := hdep 5 _ _ _ rfl rfl rfl (by kernel_rfl)
          have e22 : a.tmps.getD 22 undef = .agg CV := hdep 6 _ _ _ rfl rfl rfl (by kernel_rfl)
          have e17 : a.tmps.getD 17 undef = .bool true := hdep 1 _ _ _ rfl rfl rfl (by kernel_rfl)
          refine wpOp_calls (f := 20) (args := #[.agg CU, .agg CV]) rfl (by simp [Region.wanted, yielded, got_some e17 (by omega)]) (fun ρ hc hf ht => by have f21 := (ht 21).trans e21; have f22 := (ht 22).trans e22; clear ht; simp [go_sem, *]) ?_
          exact (S4.out w2 (belowOn HB.out HB.out.size hbe)).mono fun e w' h => ⟨_, h.1, _, rfl, rfl, h.2⟩
        · as_aux_lemma =>
          obtain rfl := Option.some.inj ho
          obtain rfl := Option.some.inj hs
          have e20 : a.tmps.getD 20 undef = .bool X := hdep 4 _ _ _ rfl rfl rfl (by kernel_rfl)
          have e23 : a.tmps.getD 23 undef = .bool X := hdep 7 _ _ _ rfl rfl rfl (by kernel_rfl)
          have e17 : a.tmps.getD 17 undef = .bool true := hdep 1 _ _ _ rfl rfl rfl (by kernel_rfl)
          exact wpOp_plain rfl (by simp [Region.wanted, yielded, got_some e17 (by omega)]) (u := .bool true) (fun ρ hc hf ht => by have f20 := (ht 20).trans e20; have f23 := (ht 23).trans e23; clear ht; simp [go_sem, *]) ⟨_, rfl, rfl, Below.refl _ _⟩
        · as_aux_lemma =>
          obtain rfl := Option.some.inj ho
          obtain rfl := Option.some.inj hs
          have e17 : a.tmps.getD 17 undef = .bool true := hdep 1 _ _ _ rfl rfl rfl (by kernel_rfl)
          have e24 : a.tmps.getD 24 undef = .bool true := hdep 8 _ _ _ rfl rfl rfl (by kernel_rfl)
          exact wpOp_plain rfl rfl (u := .bool true) (fun ρ hc hf ht => by have f17 := (ht 17).trans e17; have f24 := (ht 24).trans e24; clear ht; simp [go_sem, *]) ⟨_, rfl, rfl, Below.refl _ _⟩
        · as_aux_lemma =>
          obtain rfl := Option.some.inj ho
          obtain rfl := Option.some.inj hs
          have e25 : a.tmps.getD 25 undef = .bool true := hdep 9 _ _ _ rfl rfl rfl (by kernel_rfl)
          exact wpOp_plain rfl rfl (u := .bool true) (fun ρ hc hf ht => by have f25 := (ht 25).trans e25; clear ht; simp [go_sem, *]) ⟨_, rfl, rfl, Below.refl _ _⟩
        · as_aux_lemma =>
          obtain rfl := Option.some.inj ho
          obtain rfl := Option.some.inj hs
          have e2 : a.tmps.getD 2 undef = .pointer (some ⟨w.heap.size, 0, none⟩) := hb2
          have e26 : a.tmps.getD 26 undef = .bool true := hdep 10 _ _ _ rfl rfl rfl (by kernel_rfl)
          exact wpOp_plain rfl (by simp [Region.wanted, yielded, got_some e26 (by omega)]) (u := .agg CU) (fun ρ hc hf ht => load_row _ rfl ((ht 2).trans e2) KW Tryd.underlying29 (by rw [HSZ.out]; exact info_url)) ⟨_, rfl, rfl, Below.refl _ _⟩
        · as_aux_lemma =>
          obtain rfl := Option.some.inj ho
          obtain rfl := Option.some.inj hs
          have e2 : a.tmps.getD 2 undef = .pointer (some ⟨w.heap.size, 0, none⟩) := hb2
          have e26 : a.tmps.getD 26 undef = .bool true := hdep 10 _ _ _ rfl rfl rfl (by kernel_rfl)
          exact wpOp_plain rfl (by simp [Region.wanted, yielded, got_some e26 (by omega)]) (u := .agg CU) (fun ρ hc hf ht => load_row _ rfl ((ht 2).trans e2) KW Tryd.underlying29 (by rw [HSZ.out]; exact info_url)) ⟨_, rfl, rfl, Below.refl _ _⟩
        · as_aux_lemma =>
          obtain rfl := Option.some.inj ho
          obtain rfl := Option.some.inj hs
          have e27 : a.tmps.getD 27 undef = .agg CU := hdep 11 _ _ _ rfl rfl rfl (by kernel_rfl)
          have e28 : a.tmps.getD 28 undef = .agg CU := hdep 12 _ _ _ rfl rfl rfl (by kernel_rfl)
          have e26 : a.tmps.getD 26 undef = .bool true := hdep 10 _ _ _ rfl rfl rfl (by kernel_rfl)
          refine wpOp_calls (f := 19) (args := #[.agg CU, .agg CU]) rfl (by simp [Region.wanted, yielded, got_some e26 (by omega)]) (fun ρ hc hf ht => by have f27 := (ht 27).trans e27; have f28 := (ht 28).trans e28; clear ht; simp [go_sem, *]) ?_
          exact (S3.out w2 (belowOn HB.out HB.out.size hbe)).mono fun e w' h => ⟨_, h.1, _, rfl, rfl, h.2⟩
        · as_aux_lemma =>
          obtain rfl := Option.some.inj ho
          obtain rfl := Option.some.inj hs
          have e26 : a.tmps.getD 26 undef = .bool true := hdep 10 _ _ _ rfl rfl rfl (by kernel_rfl)
          have e29 : a.tmps.getD 29 undef = .bool true := hdep 13 _ _ _ rfl rfl rfl (by kernel_rfl)
          exact wpOp_plain rfl rfl (u := .bool true) (fun ρ hc hf ht => by have f26 := (ht 26).trans e26; have f29 := (ht 29).trans e29; clear ht; simp [go_sem, *]) ⟨_, rfl, rfl, Below.refl _ _⟩
        · as_aux_lemma =>
          obtain rfl := Option.some.inj ho
          obtain rfl := Option.some.inj hs
          have e30 : a.tmps.getD 30 undef = .bool true := hdep 14 _ _ _ rfl rfl rfl (by kernel_rfl)
          exact wpOp_plain rfl rfl (u := .bool true) (fun ρ hc hf ht => by have f30 := (ht 30).trans e30; clear ht; simp [go_sem, *]) ⟨_, rfl, rfl, Below.refl _ _⟩
        · as_aux_lemma =>
          obtain rfl := Option.some.inj ho
          obtain rfl := Option.some.inj hs
          have e2 : a.tmps.getD 2 undef = .pointer (some ⟨w.heap.size, 0, none⟩) := hb2
          have e31 : a.tmps.getD 31 undef = .bool true := hdep 15 _ _ _ rfl rfl rfl (by kernel_rfl)
          exact wpOp_plain rfl (by simp [Region.wanted, yielded, got_some e31 (by omega)]) (u := .agg CU) (fun ρ hc hf ht => load_row _ rfl ((ht 2).trans e2) KW Tryd.underlying29 (by rw [HSZ.out]; exact info_url)) ⟨_, rfl, rfl, Below.refl _ _⟩
        · as_aux_lemma =>
          obtain rfl := Option.some.inj ho
          obtain rfl := Option.some.inj hs
          have e3 : a.tmps.getD 3 undef = .pointer (some ⟨w.heap.size + 1, 0, none⟩) := hb3
          have e31 : a.tmps.getD 31 undef = .bool true := hdep 15 _ _ _ rfl rfl rfl (by kernel_rfl)
          exact wpOp_plain rfl (by simp [Region.wanted, yielded, got_some e31 (by omega)]) (u := .agg CV) (fun ρ hc hf ht => load_row _ rfl ((ht 3).trans e3) LW Tryd.underlying29 (by rw [HSV.out]; exact info_url)) ⟨_, rfl, rfl, Below.refl _ _⟩
        · as_aux_lemma =>
          obtain rfl := Option.some.inj ho
          obtain rfl := Option.some.inj hs
          have e32 : a.tmps.getD 32 undef = .agg CU := hdep 16 _ _ _ rfl rfl rfl (by kernel_rfl)
          have e33 : a.tmps.getD 33 undef = .agg CV := hdep 17 _ _ _ rfl rfl rfl (by kernel_rfl)
          have e31 : a.tmps.getD 31 undef = .bool true := hdep 15 _ _ _ rfl rfl rfl (by kernel_rfl)
          refine wpOp_calls (f := 19) (args := #[.agg CU, .agg CV]) rfl (by simp [Region.wanted, yielded, got_some e31 (by omega)]) (fun ρ hc hf ht => by have f32 := (ht 32).trans e32; have f33 := (ht 33).trans e33; clear ht; simp [go_sem, *]) ?_
          exact (S1.out w2 (belowOn HB.out HB.out.size hbe)).mono fun e w' h => ⟨_, h.1, _, rfl, rfl, h.2⟩
        · as_aux_lemma =>
          obtain rfl := Option.some.inj ho
          obtain rfl := Option.some.inj hs
          have e3 : a.tmps.getD 3 undef = .pointer (some ⟨w.heap.size + 1, 0, none⟩) := hb3
          have e31 : a.tmps.getD 31 undef = .bool true := hdep 15 _ _ _ rfl rfl rfl (by kernel_rfl)
          exact wpOp_plain rfl (by simp [Region.wanted, yielded, got_some e31 (by omega)]) (u := .agg CV) (fun ρ hc hf ht => load_row _ rfl ((ht 3).trans e3) LW Tryd.underlying29 (by rw [HSV.out]; exact info_url)) ⟨_, rfl, rfl, Below.refl _ _⟩
        · as_aux_lemma =>
          obtain rfl := Option.some.inj ho
          obtain rfl := Option.some.inj hs
          have e2 : a.tmps.getD 2 undef = .pointer (some ⟨w.heap.size, 0, none⟩) := hb2
          have e31 : a.tmps.getD 31 undef = .bool true := hdep 15 _ _ _ rfl rfl rfl (by kernel_rfl)
          exact wpOp_plain rfl (by simp [Region.wanted, yielded, got_some e31 (by omega)]) (u := .agg CU) (fun ρ hc hf ht => load_row _ rfl ((ht 2).trans e2) KW Tryd.underlying29 (by rw [HSZ.out]; exact info_url)) ⟨_, rfl, rfl, Below.refl _ _⟩
        · as_aux_lemma =>
          obtain rfl := Option.some.inj ho
          obtain rfl := Option.some.inj hs
          have e35 : a.tmps.getD 35 undef = .agg CV := hdep 19 _ _ _ rfl rfl rfl (by kernel_rfl)
          have e36 : a.tmps.getD 36 undef = .agg CU := hdep 20 _ _ _ rfl rfl rfl (by kernel_rfl)
          have e31 : a.tmps.getD 31 undef = .bool true := hdep 15 _ _ _ rfl rfl rfl (by kernel_rfl)
          refine wpOp_calls (f := 19) (args := #[.agg CV, .agg CU]) rfl (by simp [Region.wanted, yielded, got_some e31 (by omega)]) (fun ρ hc hf ht => by have f35 := (ht 35).trans e35; have f36 := (ht 36).trans e36; clear ht; simp [go_sem, *]) ?_
          exact (S2.out w2 (belowOn HB.out HB.out.size hbe)).mono fun e w' h => ⟨_, h.1, _, rfl, rfl, h.2⟩
        · as_aux_lemma =>
          obtain rfl := Option.some.inj ho
          obtain rfl := Option.some.inj hs
          have e34 : a.tmps.getD 34 undef = .bool X := hdep 18 _ _ _ rfl rfl rfl (by kernel_rfl)
          have e37 : a.tmps.getD 37 undef = .bool X := hdep 21 _ _ _ rfl rfl rfl (by kernel_rfl)
          have e31 : a.tmps.getD 31 undef = .bool true := hdep 15 _ _ _ rfl rfl rfl (by kernel_rfl)
          exact wpOp_plain rfl (by simp [Region.wanted, yielded, got_some e31 (by omega)]) (u := .bool true) (fun ρ hc hf ht => by have f34 := (ht 34).trans e34; have f37 := (ht 37).trans e37; clear ht; simp [go_sem, *]) ⟨_, rfl, rfl, Below.refl _ _⟩
        · as_aux_lemma =>
          obtain rfl := Option.some.inj ho
          obtain rfl := Option.some.inj hs
          have e31 : a.tmps.getD 31 undef = .bool true := hdep 15 _ _ _ rfl rfl rfl (by kernel_rfl)
          have e38 : a.tmps.getD 38 undef = .bool true := hdep 22 _ _ _ rfl rfl rfl (by kernel_rfl)
          exact wpOp_plain rfl rfl (u := .bool true) (fun ρ hc hf ht => by have f31 := (ht 31).trans e31; have f38 := (ht 38).trans e38; clear ht; simp [go_sem, *]) ⟨_, rfl, rfl, Below.refl _ _⟩
        · as_aux_lemma =>
          obtain rfl := Option.some.inj ho
          obtain rfl := Option.some.inj hs
          have e39 : a.tmps.getD 39 undef = .bool true := hdep 23 _ _ _ rfl rfl rfl (by kernel_rfl)
          exact wpOp_plain rfl rfl (u := .bool true) (fun ρ hc hf ht => by have f39 := (ht 39).trans e39; clear ht; simp [go_sem, *]) ⟨_, rfl, rfl, Below.refl _ _⟩
      · intro a w2 hall hdef hbe
        have er : a.tmps.getD 4 undef = .bool true := hall 24 _ _ _ rfl rfl rfl
        rename_i Q9 K9 hK9
        refine hK9 _ _ (wp_ret ?_)
        refine bodyPost_ret (results_tmp (t := 4) rfl a.tmps _ w2) hdef ?_
        rw [er]
        exact ⟨rfl, belowOn HB.out HB.out.size hbe⟩
end Go.Proofs.YtgljkgkmbfhgiaaDoor
