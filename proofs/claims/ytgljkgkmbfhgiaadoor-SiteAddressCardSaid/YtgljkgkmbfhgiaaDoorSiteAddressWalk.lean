/- SiteAddress, walked. -/
import Derived.Test.YtgljkgkmbfhgiaaDoorSiteAwake
set_option linter.unusedVariables false
set_option linter.unusedSimpArgs false
set_option maxRecDepth 100000
namespace Go.Proofs.YtgljkgkmbfhgiaaDoor
open Go.RowKit Four Six Rec

theorem no_ends {rules : List Rule} {h : HostV} (hno : ¬ (h.kind = 2 ∧ (labP (labelsL h.name)).2 = true)) (m : Nat) : endsP rules h m = none := by
  unfold endsP
  by_cases h2 : h.kind = 2
  · rw [if_pos h2]
    cases hL : labelsL h.name with
    | none => rfl
    | some L => exact absurd ⟨h2, by rw [hL]; rfl⟩ hno
  · rw [if_neg h2]
theorem build17 {N : Option Tmp} {q1 q2 : Tmp} {ty : TypeId} {pos : String} {af : Array Edge} {gd : Option (Nat × Bool)} {h : HostV} {scheme : ByteArray} {ρ : Operand → Value} {w : World} {C D : Array Value} (hC : C = h.cells.toArray) (hD : D = (⟨false, scheme, h, 0⟩ : OrgV).cells.toArray) (h1 : ρ (.tmp q1) = .string scheme) (h2 : ρ (.tmp q2) = .agg C) :
    (execOp ρ ⟨N, .build 49 #[(1, .tmp q1), (2, .tmp q2)], ty, pos, af, gd⟩).run Tryd.prog w = .ok (.value (.agg D)) w := by
  rw [hC, hostc] at h2
  rw [hD, orgc]
  simp [go_sem, *]
set_option maxHeartbeats 8000000 in
theorem address_law {w : World} (hF : FW w) (A : Option Addr) (c : Nat) (l : List RulV) (hr : RowAt RulV.cells 2 w A l) (hok : ∀ x ∈ l, x.ok w) (hlc : l.length ≤ c) (hcm : c ≤ maxLen) (h : HostV) (ho : h.ok) (scheme : ByteArray) :
    Calls Tryd.prog 11 #[.slice A l.length c, .agg h.cells.toArray, .string scheme] w fun e w' => e = .returned (.bool true) ∧ Below w.heap.size w w' := by
  have HAW := Lib.hid (fun (W : World) (hb : Below w.heap.size w W) => awake_calls (hF.keep hb))
  have HF := Lib.hid (fun (W : World) (hb : Below w.heap.size w W) => hF.keep hb)
  have F1 := Lib.hid (fun (W : World) (hb : Below w.heap.size w W) => few_rules A c l W (hr.keep hb) (fun x hx => (hok x hx).keep hb) hlc hcm)
  have HN := Lib.hid (fun (W : World) (hb : Below w.heap.size w W) => new_calls A c l W 1 (hr.keep hb) (fun x hx => (hok x hx).keep hb) hlc hcm)
  have HROW := Lib.hid hr
  have HOK := Lib.hid hok
  clear hF hr hok
  obtain ⟨C, hC⟩ : ∃ C, C = h.cells.toArray := ⟨_, rfl⟩
  obtain ⟨D, hD⟩ : ∃ D, D = (⟨false, scheme, h, 0⟩ : OrgV).cells.toArray := ⟨_, rfl⟩
  have C0 := Lib.hid (show C[0]? = some (.int .i64 h.kind) by rw [hC]; rfl)
  have C1 := Lib.hid (show C[1]? = some (.string h.name) by rw [hC]; rfl)
  have CS := Lib.hid (show C.size = 11 by rw [hC]; rfl)
  have CC := Lib.hid hC
  have DD := Lib.hid hD
  obtain ⟨W, hW⟩ : ∃ W, W = w.alloc (.cells C 26) := ⟨_, rfl⟩
  have BW := Lib.hid (show Below w.heap.size w W by rw [hW]; exact (Below.refl _ _).alloc (Nat.le_refl _) _)
  have KW := Lib.hid (show Blk W w.heap.size 26 C by rw [hW]; exact Blk.new w _ _)
  have HW := Lib.hid hW
  have HO := Lib.hid ho
  rw [← hC]
  clear hW ho hC hD
  cases hf1 : fewR l
  · go_enter Tryd.func11, Tryd.ntmps11
    go_wp2_with fail
    rw [← HW.out]
    refine (HAW.out W BW.out).mono ?_
    rintro e u1 ⟨rfl, hb⟩
    have Ku1 := Lib.hid (KW.out.keep hb)
    have Bu1 := Lib.hid (belowOn BW.out BW.out.size hb)
    clear hb BW KW
    go_wp2_with fail
    refine (F1.out u1 Bu1.out).mono ?_
    rw [hf1]
    rintro e w9 ⟨rfl, rfl⟩
    have x1 := (Ku1.out.cell 1).trans C1.out
    have lt1 := Ku1.out.lt
    go_wp2_with fail
    go_ret
    exact ⟨rfl, Bu1.out⟩
  · by_cases hn : h.name.size ≤ 100
    · by_cases hs : scheme.size ≤ 100
      · obtain ⟨bl, hbl⟩ : ∃ b, b = (labP (labelsL h.name)).2 := ⟨_, rfl⟩
        have HBL := Lib.hid hbl
        clear hbl
        by_cases h2 : h.kind = 2
        · have H2 := Lib.hid h2
          clear h2
          cases bl with
          | true =>
            go_enter Tryd.func11, Tryd.ntmps11
            go_wp2_with fail
            rw [← HW.out]
            refine (HAW.out W BW.out).mono ?_
            rintro e u1 ⟨rfl, hb⟩
            have Ku1 := Lib.hid (KW.out.keep hb)
            have Bu1 := Lib.hid (belowOn BW.out BW.out.size hb)
            clear hb BW KW
            go_wp2_with fail
            refine (F1.out u1 Bu1.out).mono ?_
            rw [hf1]
            rintro e w9 ⟨rfl, rfl⟩
            have x1 := (Ku1.out.cell 1).trans C1.out
            have lt1 := Ku1.out.lt
            go_wp2_with fail
            refine (few17_calls h.name u1).mono ?_
            rintro e u2 ⟨rfl, hb⟩
            have Ku2 := Lib.hid (Ku1.out.keep hb)
            have Bu2 := Lib.hid (belowOn Bu1.out Bu1.out.size hb)
            clear hb Bu1 Ku1
            rw [decide_eq_true hn]
            clear x1 lt1
            go_wp2_with fail
            refine (few17_calls scheme u2).mono ?_
            rintro e u3 ⟨rfl, hb⟩
            have Ku3 := Lib.hid (Ku2.out.keep hb)
            have Bu3 := Lib.hid (belowOn Bu2.out Bu2.out.size hb)
            clear hb Bu2 Ku2
            rw [decide_eq_true hs]
            have x1 := (Ku3.out.cell 1).trans C1.out
            have lt1 := Ku3.out.lt
            have L0 := Lib.hid (reflabels_calls h.name (by omega) u3)
            rw [← HBL.out] at L0
            go_wp2_with fail
            refine L0.out.mono ?_
            rintro e v1 ⟨A1, c1, rfl, -, -, -, hb⟩
            have Bv1 := Lib.hid (belowOn Bu3.out Bu3.out.size hb)
            have Kv1 := Lib.hid (Ku3.out.keep hb)
            clear hb x1 lt1
            have x0 := (Kv1.out.cell 0).trans C0.out
            have lt1 := Kv1.out.lt
            rw [H2.out] at x0
            go_wp2_with fail
            go_ret
            exact ⟨rfl, Bv1.out⟩
          | false =>
            have HNO := Lib.hid (show ¬ (h.kind = 2 ∧ (labP (labelsL h.name)).2 = true) from fun e => by rw [← HBL.out] at e; cases e.2)
            go_enter Tryd.func11, Tryd.ntmps11
            go_wp2_with fail
            rw [← HW.out]
            refine (HAW.out W BW.out).mono ?_
            rintro e u1 ⟨rfl, hb⟩
            have Ku1 := Lib.hid (KW.out.keep hb)
            have Bu1 := Lib.hid (belowOn BW.out BW.out.size hb)
            clear hb BW KW
            go_wp2_with fail
            refine (F1.out u1 Bu1.out).mono ?_
            rw [hf1]
            rintro e w9 ⟨rfl, rfl⟩
            have x1 := (Ku1.out.cell 1).trans C1.out
            have lt1 := Ku1.out.lt
            go_wp2_with fail
            refine (few17_calls h.name u1).mono ?_
            rintro e u2 ⟨rfl, hb⟩
            have Ku2 := Lib.hid (Ku1.out.keep hb)
            have Bu2 := Lib.hid (belowOn Bu1.out Bu1.out.size hb)
            clear hb Bu1 Ku1
            rw [decide_eq_true hn]
            clear x1 lt1
            go_wp2_with fail
            refine (few17_calls scheme u2).mono ?_
            rintro e u3 ⟨rfl, hb⟩
            have Ku3 := Lib.hid (Ku2.out.keep hb)
            have Bu3 := Lib.hid (belowOn Bu2.out Bu2.out.size hb)
            clear hb Bu2 Ku2
            rw [decide_eq_true hs]
            have x1 := (Ku3.out.cell 1).trans C1.out
            have lt1 := Ku3.out.lt
            have L0 := Lib.hid (reflabels_calls h.name (by omega) u3)
            rw [← HBL.out] at L0
            go_wp2_with fail
            refine L0.out.mono ?_
            rintro e v1 ⟨A1, c1, rfl, -, -, -, hb⟩
            have Bv1 := Lib.hid (belowOn Bu3.out Bu3.out.size hb)
            have Kv1 := Lib.hid (Ku3.out.keep hb)
            clear hb x1 lt1
            have x0 := (Kv1.out.cell 0).trans C0.out
            have lt1 := Kv1.out.lt
            rw [H2.out] at x0
            go_wp2_with fail
            clear x0 lt1
            refine (HN.out v1 Bv1.out).mono ?_
            rintro e u4 ⟨⟨t, a, rfl, ht⟩, hb⟩
            have Ku4 := Lib.hid (Kv1.out.keep hb)
            have Bu4 := Lib.hid (belowOn Bv1.out Bv1.out.size hb)
            have Tu4 := Lib.hid ht
            clear ht
            clear hb Bv1 Kv1
            have q := suffix17_calls Tu4.out (HF.out _ Bu4.out) h (by omega)
            rw [no_ends HNO.out, ← CC.out] at q
            have Q0 := Lib.hid q
            clear q
            go_wp2_with (with_reducible refine stopS ?_)
            refine stopS_go ?_
            refine load_hostB Ku4.out CS.out (.tmp 4) rfl rfl rfl ?_
            go_wp2_with fail
            refine (Q0.out).mono ?_
            rintro e u5 ⟨rfl, hb⟩
            have Ku5 := Lib.hid (Ku4.out.keep hb)
            have Tu5 := Lib.hid (Tu4.out.keep hb)
            have Bu5 := Lib.hid (belowOn Bu4.out Bu4.out.size hb)
            clear hb Bu4 Ku4 Tu4
            unfold endsV
            have q := reg17_calls Tu5.out (HF.out _ Bu5.out) h (by omega)
            rw [no_ends HNO.out, ← CC.out] at q
            have Q1 := Lib.hid q
            clear q
            go_wp2_with (with_reducible refine stopS ?_)
            refine stopS_go ?_
            refine load_hostB Ku5.out CS.out (.tmp 4) rfl rfl rfl ?_
            go_wp2_with fail
            refine (Q1.out).mono ?_
            rintro e u6 ⟨rfl, hb⟩
            have Ku6 := Lib.hid (Ku5.out.keep hb)
            have Tu6 := Lib.hid (Tu5.out.keep hb)
            have Bu6 := Lib.hid (belowOn Bu5.out Bu5.out.size hb)
            clear hb Bu5 Ku5 Tu5
            unfold endsV
            have hc1 := fun (V : World) (hb : Below u6.heap.size u6 V) => of17_calls (Tu6.out.keep hb) (HF.out _ (belowOn Bu6.out Bu6.out.size hb)) (⟨false, scheme, h, 0⟩ : OrgV) HO.out (show h.name.size ≤ 200 by omega) (show scheme.size ≤ 200 by omega)
            have hc2 := fun (V : World) (hb : Below u6.heap.size u6 V) => refof17_calls none 0 [] V (fun i x hx => by simp at hx) (fun x hx => by simp at hx) (Nat.le_refl _) (Nat.zero_le _) (⟨false, scheme, h, 0⟩ : OrgV) HO.out (show h.name.size ≤ 200 by omega) (show scheme.size ≤ 200 by omega)
            have hse : siteT (([] : List RulV).map (·.r)) (⟨false, scheme, h, 0⟩ : OrgV) = siteT (l.map (·.r)) (⟨false, scheme, h, 0⟩ : OrgV) := by
              unfold siteT siteH
              simp only [no_ends HNO.out]
            rw [hse, ← DD.out] at hc2
            rw [← DD.out] at hc1
            simp only [List.length_nil] at hc2
            generalize mkB (siteT (l.map (·.r)) (⟨false, scheme, h, 0⟩ : OrgV)) = SX at hc1 hc2
            have F1 := Lib.hid hc1
            have F2 := Lib.hid hc2
            clear hc1 hc2 hse
            go_upto_region 10 with fail
            clear HAW HF HN HROW HOK HW HO C0 C1 Tu6 Q0 Q1
            refine wp_region_RI [.is (.bool true), .is (.bool true), .is (.string ⟨#[]⟩), .is (.bool true), .is (.bool true), .is (.bool true), .is (.bool false), .is (.bool true), .is (.bool true), .is (.bool true), .is (.string ⟨#[]⟩), .is (.bool true), .is (.bool true), .is (.bool true), .is (.bool false), .is (.bool true), .is (.bool true), .is (.bool true), .is (.pointer (some ⟨t, 0, none⟩)), .is (.string scheme), .is (.agg C), .is (.agg D), .is (.string SX), .is (.string scheme), .is (.agg C), .is (.agg D), .is (.string SX), .is (.bool true), .is (.bool true), .is (.bool true)] (by kernel_rfl) (by kernel_rfl) (by kernel_rfl) ?_ ?_
            · intro i o sp ho hs a w2 hbe htz hkept hdep
              have hi : i < 30 := (Array.getElem?_eq_some_iff.1 ho).1
              have hsz : a.tmps.size = 87 := htz
              have KW2 := Lib.hid (Ku6.out.keep hbe)
              have hb7 : a.tmps.getD 7 undef = .bool true := hkept 7 (noDst_spec (by kernel_rfl))
              have hb11 : a.tmps.getD 11 undef = .string ⟨#[]⟩ := hkept 11 (noDst_spec (by kernel_rfl))
              have hb12 : a.tmps.getD 12 undef = .bool false := hkept 12 (noDst_spec (by kernel_rfl))
              have hb13 : a.tmps.getD 13 undef = .string ⟨#[]⟩ := hkept 13 (noDst_spec (by kernel_rfl))
              have hb14 : a.tmps.getD 14 undef = .bool false := hkept 14 (noDst_spec (by kernel_rfl))
              have hb10 : a.tmps.getD 10 undef = .pointer (some ⟨t, 0, none⟩) := hkept 10 (noDst_spec (by kernel_rfl))
              have hb2 : a.tmps.getD 2 undef = .string scheme := hkept 2 (noDst_spec (by kernel_rfl))
              have hb4 : a.tmps.getD 4 undef = .pointer (some ⟨w.heap.size, 0, none⟩) := hkept 4 (noDst_spec (by kernel_rfl))
              rcases (by omega : i = 0 ∨ i = 1 ∨ i = 2 ∨ i = 3 ∨ i = 4 ∨ i = 5 ∨ i = 6 ∨ i = 7 ∨ i = 8 ∨ i = 9 ∨ i = 10 ∨ i = 11 ∨ i = 12 ∨ i = 13 ∨ i = 14 ∨ i = 15 ∨ i = 16 ∨ i = 17 ∨ i = 18 ∨ i = 19 ∨ i = 20 ∨ i = 21 ∨ i = 22 ∨ i = 23 ∨ i = 24 ∨ i = 25 ∨ i = 26 ∨ i = 27 ∨ i = 28 ∨ i = 29) with rfl | rfl | rfl | rfl | rfl | rfl | rfl | rfl | rfl | rfl | rfl | rfl | rfl | rfl | rfl | rfl | rfl | rfl | rfl | rfl | rfl | rfl | rfl | rfl | rfl | rfl | rfl | rfl | rfl | rfl
              · as_aux_lemma =>
                obtain rfl := Option.some.inj ho
                obtain rfl := Option.some.inj hs
                have e7 : a.tmps.getD 7 undef = .bool true := hb7
                exact wpOp_plain rfl rfl (u := .bool true) (fun ρ hc hf ht => by have f7 := (ht 7).trans e7; clear ht; simp [go_sem, *]) ⟨_, rfl, rfl, Below.refl _ _⟩
              · as_aux_lemma =>
                obtain rfl := Option.some.inj ho
                obtain rfl := Option.some.inj hs
                have e58 : a.tmps.getD 58 undef = .bool true := hdep 0 _ _ _ rfl rfl rfl (by kernel_rfl)
                exact wpOp_plain rfl rfl (u := .bool true) (fun ρ hc hf ht => by have f58 := (ht 58).trans e58; clear ht; simp [go_sem, *]) ⟨_, rfl, rfl, Below.refl _ _⟩
              · as_aux_lemma =>
                obtain rfl := Option.some.inj ho
                obtain rfl := Option.some.inj hs
                have e11 : a.tmps.getD 11 undef = .string ⟨#[]⟩ := hb11
                have e59 : a.tmps.getD 59 undef = .bool true := hdep 1 _ _ _ rfl rfl rfl (by kernel_rfl)
                exact wpOp_plain rfl (by simp [Region.wanted, yielded, got_some e59 (by omega)]) (u := .string ⟨#[]⟩) (fun ρ hc hf ht => by have f11 := (ht 11).trans e11; clear ht; simp [go_sem, *]) ⟨_, rfl, rfl, Below.refl _ _⟩
              · as_aux_lemma =>
                obtain rfl := Option.some.inj ho
                obtain rfl := Option.some.inj hs
                have e60 : a.tmps.getD 60 undef = .string ⟨#[]⟩ := hdep 2 _ _ _ rfl rfl rfl (by kernel_rfl)
                have e59 : a.tmps.getD 59 undef = .bool true := hdep 1 _ _ _ rfl rfl rfl (by kernel_rfl)
                exact wpOp_plain rfl (by simp [Region.wanted, yielded, got_some e59 (by omega)]) (u := .bool true) (fun ρ hc hf ht => by have f60 := (ht 60).trans e60; clear ht; simp [go_sem, *]) ⟨_, rfl, rfl, Below.refl _ _⟩
              · as_aux_lemma =>
                obtain rfl := Option.some.inj ho
                obtain rfl := Option.some.inj hs
                have e59 : a.tmps.getD 59 undef = .bool true := hdep 1 _ _ _ rfl rfl rfl (by kernel_rfl)
                have e61 : a.tmps.getD 61 undef = .bool true := hdep 3 _ _ _ rfl rfl rfl (by kernel_rfl)
                exact wpOp_plain rfl rfl (u := .bool true) (fun ρ hc hf ht => by have f59 := (ht 59).trans e59; have f61 := (ht 61).trans e61; clear ht; simp [go_sem, *]) ⟨_, rfl, rfl, Below.refl _ _⟩
              · as_aux_lemma =>
                obtain rfl := Option.some.inj ho
                obtain rfl := Option.some.inj hs
                have e62 : a.tmps.getD 62 undef = .bool true := hdep 4 _ _ _ rfl rfl rfl (by kernel_rfl)
                exact wpOp_plain rfl rfl (u := .bool true) (fun ρ hc hf ht => by have f62 := (ht 62).trans e62; clear ht; simp [go_sem, *]) ⟨_, rfl, rfl, Below.refl _ _⟩
              · as_aux_lemma =>
                obtain rfl := Option.some.inj ho
                obtain rfl := Option.some.inj hs
                have e12 : a.tmps.getD 12 undef = .bool false := hb12
                have e63 : a.tmps.getD 63 undef = .bool true := hdep 5 _ _ _ rfl rfl rfl (by kernel_rfl)
                exact wpOp_plain rfl (by simp [Region.wanted, yielded, got_some e63 (by omega)]) (u := .bool false) (fun ρ hc hf ht => by have f12 := (ht 12).trans e12; clear ht; simp [go_sem, *]) ⟨_, rfl, rfl, Below.refl _ _⟩
              · as_aux_lemma =>
                obtain rfl := Option.some.inj ho
                obtain rfl := Option.some.inj hs
                have e64 : a.tmps.getD 64 undef = .bool false := hdep 6 _ _ _ rfl rfl rfl (by kernel_rfl)
                have e63 : a.tmps.getD 63 undef = .bool true := hdep 5 _ _ _ rfl rfl rfl (by kernel_rfl)
                exact wpOp_plain rfl (by simp [Region.wanted, yielded, got_some e63 (by omega)]) (u := .bool true) (fun ρ hc hf ht => by have f64 := (ht 64).trans e64; clear ht; simp [go_sem, *]) ⟨_, rfl, rfl, Below.refl _ _⟩
              · as_aux_lemma =>
                obtain rfl := Option.some.inj ho
                obtain rfl := Option.some.inj hs
                have e63 : a.tmps.getD 63 undef = .bool true := hdep 5 _ _ _ rfl rfl rfl (by kernel_rfl)
                have e65 : a.tmps.getD 65 undef = .bool true := hdep 7 _ _ _ rfl rfl rfl (by kernel_rfl)
                exact wpOp_plain rfl rfl (u := .bool true) (fun ρ hc hf ht => by have f63 := (ht 63).trans e63; have f65 := (ht 65).trans e65; clear ht; simp [go_sem, *]) ⟨_, rfl, rfl, Below.refl _ _⟩
              · as_aux_lemma =>
                obtain rfl := Option.some.inj ho
                obtain rfl := Option.some.inj hs
                have e66 : a.tmps.getD 66 undef = .bool true := hdep 8 _ _ _ rfl rfl rfl (by kernel_rfl)
                exact wpOp_plain rfl rfl (u := .bool true) (fun ρ hc hf ht => by have f66 := (ht 66).trans e66; clear ht; simp [go_sem, *]) ⟨_, rfl, rfl, Below.refl _ _⟩
              · as_aux_lemma =>
                obtain rfl := Option.some.inj ho
                obtain rfl := Option.some.inj hs
                have e13 : a.tmps.getD 13 undef = .string ⟨#[]⟩ := hb13
                have e67 : a.tmps.getD 67 undef = .bool true := hdep 9 _ _ _ rfl rfl rfl (by kernel_rfl)
                exact wpOp_plain rfl (by simp [Region.wanted, yielded, got_some e67 (by omega)]) (u := .string ⟨#[]⟩) (fun ρ hc hf ht => by have f13 := (ht 13).trans e13; clear ht; simp [go_sem, *]) ⟨_, rfl, rfl, Below.refl _ _⟩
              · as_aux_lemma =>
                obtain rfl := Option.some.inj ho
                obtain rfl := Option.some.inj hs
                have e68 : a.tmps.getD 68 undef = .string ⟨#[]⟩ := hdep 10 _ _ _ rfl rfl rfl (by kernel_rfl)
                have e67 : a.tmps.getD 67 undef = .bool true := hdep 9 _ _ _ rfl rfl rfl (by kernel_rfl)
                exact wpOp_plain rfl (by simp [Region.wanted, yielded, got_some e67 (by omega)]) (u := .bool true) (fun ρ hc hf ht => by have f68 := (ht 68).trans e68; clear ht; simp [go_sem, *]) ⟨_, rfl, rfl, Below.refl _ _⟩
              · as_aux_lemma =>
                obtain rfl := Option.some.inj ho
                obtain rfl := Option.some.inj hs
                have e67 : a.tmps.getD 67 undef = .bool true := hdep 9 _ _ _ rfl rfl rfl (by kernel_rfl)
                have e69 : a.tmps.getD 69 undef = .bool true := hdep 11 _ _ _ rfl rfl rfl (by kernel_rfl)
                exact wpOp_plain rfl rfl (u := .bool true) (fun ρ hc hf ht => by have f67 := (ht 67).trans e67; have f69 := (ht 69).trans e69; clear ht; simp [go_sem, *]) ⟨_, rfl, rfl, Below.refl _ _⟩
              · as_aux_lemma =>
                obtain rfl := Option.some.inj ho
                obtain rfl := Option.some.inj hs
                have e70 : a.tmps.getD 70 undef = .bool true := hdep 12 _ _ _ rfl rfl rfl (by kernel_rfl)
                exact wpOp_plain rfl rfl (u := .bool true) (fun ρ hc hf ht => by have f70 := (ht 70).trans e70; clear ht; simp [go_sem, *]) ⟨_, rfl, rfl, Below.refl _ _⟩
              · as_aux_lemma =>
                obtain rfl := Option.some.inj ho
                obtain rfl := Option.some.inj hs
                have e14 : a.tmps.getD 14 undef = .bool false := hb14
                have e71 : a.tmps.getD 71 undef = .bool true := hdep 13 _ _ _ rfl rfl rfl (by kernel_rfl)
                exact wpOp_plain rfl (by simp [Region.wanted, yielded, got_some e71 (by omega)]) (u := .bool false) (fun ρ hc hf ht => by have f14 := (ht 14).trans e14; clear ht; simp [go_sem, *]) ⟨_, rfl, rfl, Below.refl _ _⟩
              · as_aux_lemma =>
                obtain rfl := Option.some.inj ho
                obtain rfl := Option.some.inj hs
                have e72 : a.tmps.getD 72 undef = .bool false := hdep 14 _ _ _ rfl rfl rfl (by kernel_rfl)
                have e71 : a.tmps.getD 71 undef = .bool true := hdep 13 _ _ _ rfl rfl rfl (by kernel_rfl)
                exact wpOp_plain rfl (by simp [Region.wanted, yielded, got_some e71 (by omega)]) (u := .bool true) (fun ρ hc hf ht => by have f72 := (ht 72).trans e72; clear ht; simp [go_sem, *]) ⟨_, rfl, rfl, Below.refl _ _⟩
              · as_aux_lemma =>
                obtain rfl := Option.some.inj ho
                obtain rfl := Option.some.inj hs
                have e71 : a.tmps.getD 71 undef = .bool true := hdep 13 _ _ _ rfl rfl rfl (by kernel_rfl)
                have e73 : a.tmps.getD 73 undef = .bool true := hdep 15 _ _ _ rfl rfl rfl (by kernel_rfl)
                exact wpOp_plain rfl rfl (u := .bool true) (fun ρ hc hf ht => by have f71 := (ht 71).trans e71; have f73 := (ht 73).trans e73; clear ht; simp [go_sem, *]) ⟨_, rfl, rfl, Below.refl _ _⟩
              · as_aux_lemma =>
                obtain rfl := Option.some.inj ho
                obtain rfl := Option.some.inj hs
                have e74 : a.tmps.getD 74 undef = .bool true := hdep 16 _ _ _ rfl rfl rfl (by kernel_rfl)
                exact wpOp_plain rfl rfl (u := .bool true) (fun ρ hc hf ht => by have f74 := (ht 74).trans e74; clear ht; simp [go_sem, *]) ⟨_, rfl, rfl, Below.refl _ _⟩
              · as_aux_lemma =>
                obtain rfl := Option.some.inj ho
                obtain rfl := Option.some.inj hs
                have e10 : a.tmps.getD 10 undef = .pointer (some ⟨t, 0, none⟩) := hb10
                have e75 : a.tmps.getD 75 undef = .bool true := hdep 17 _ _ _ rfl rfl rfl (by kernel_rfl)
                exact wpOp_plain rfl (by simp [Region.wanted, yielded, got_some e75 (by omega)]) (u := .pointer (some ⟨t, 0, none⟩)) (fun ρ hc hf ht => by have f10 := (ht 10).trans e10; clear ht; simp [go_sem, *]) ⟨_, rfl, rfl, Below.refl _ _⟩
              · as_aux_lemma =>
                obtain rfl := Option.some.inj ho
                obtain rfl := Option.some.inj hs
                have e2 : a.tmps.getD 2 undef = .string scheme := hb2
                have e75 : a.tmps.getD 75 undef = .bool true := hdep 17 _ _ _ rfl rfl rfl (by kernel_rfl)
                exact wpOp_plain rfl (by simp [Region.wanted, yielded, got_some e75 (by omega)]) (u := .string scheme) (fun ρ hc hf ht => by have f2 := (ht 2).trans e2; clear ht; simp [go_sem, *]) ⟨_, rfl, rfl, Below.refl _ _⟩
              · as_aux_lemma =>
                obtain rfl := Option.some.inj ho
                obtain rfl := Option.some.inj hs
                have e4 : a.tmps.getD 4 undef = .pointer (some ⟨w.heap.size, 0, none⟩) := hb4
                have e75 : a.tmps.getD 75 undef = .bool true := hdep 17 _ _ _ rfl rfl rfl (by kernel_rfl)
                exact wpOp_plain rfl (by simp [Region.wanted, yielded, got_some e75 (by omega)]) (u := .agg C) (fun ρ hc hf ht => load_row _ rfl ((ht 4).trans e4) KW2.out Tryd.underlying26 (by rw [CS.out]; exact info_host)) ⟨_, rfl, rfl, Below.refl _ _⟩
              · as_aux_lemma =>
                obtain rfl := Option.some.inj ho
                obtain rfl := Option.some.inj hs
                have e77 : a.tmps.getD 77 undef = .string scheme := hdep 19 _ _ _ rfl rfl rfl (by kernel_rfl)
                have e78 : a.tmps.getD 78 undef = .agg C := hdep 20 _ _ _ rfl rfl rfl (by kernel_rfl)
                have e75 : a.tmps.getD 75 undef = .bool true := hdep 17 _ _ _ rfl rfl rfl (by kernel_rfl)
                exact wpOp_plain rfl (by simp [Region.wanted, yielded, got_some e75 (by omega)]) (u := .agg D) (fun ρ hc hf ht => build17 CC.out DD.out ((ht 77).trans e77) ((ht 78).trans e78)) ⟨_, rfl, rfl, Below.refl _ _⟩
              · as_aux_lemma =>
                obtain rfl := Option.some.inj ho
                obtain rfl := Option.some.inj hs
                have e76 : a.tmps.getD 76 undef = .pointer (some ⟨t, 0, none⟩) := hdep 18 _ _ _ rfl rfl rfl (by kernel_rfl)
                have e79 : a.tmps.getD 79 undef = .agg D := hdep 21 _ _ _ rfl rfl rfl (by kernel_rfl)
                have e75 : a.tmps.getD 75 undef = .bool true := hdep 17 _ _ _ rfl rfl rfl (by kernel_rfl)
                refine wpOp_calls (f := 31) (args := #[.pointer (some ⟨t, 0, none⟩), .agg D]) rfl (by simp [Region.wanted, yielded, got_some e75 (by omega)]) (fun ρ hc hf ht => by have f76 := (ht 76).trans e76; have f79 := (ht 79).trans e79; clear ht; simp [go_sem, *]) ?_
                exact (F1.out w2 hbe).mono fun e w' h => ⟨_, h.1, _, rfl, rfl, h.2⟩
              · as_aux_lemma =>
                obtain rfl := Option.some.inj ho
                obtain rfl := Option.some.inj hs
                have e2 : a.tmps.getD 2 undef = .string scheme := hb2
                have e75 : a.tmps.getD 75 undef = .bool true := hdep 17 _ _ _ rfl rfl rfl (by kernel_rfl)
                exact wpOp_plain rfl (by simp [Region.wanted, yielded, got_some e75 (by omega)]) (u := .string scheme) (fun ρ hc hf ht => by have f2 := (ht 2).trans e2; clear ht; simp [go_sem, *]) ⟨_, rfl, rfl, Below.refl _ _⟩
              · as_aux_lemma =>
                obtain rfl := Option.some.inj ho
                obtain rfl := Option.some.inj hs
                have e4 : a.tmps.getD 4 undef = .pointer (some ⟨w.heap.size, 0, none⟩) := hb4
                have e75 : a.tmps.getD 75 undef = .bool true := hdep 17 _ _ _ rfl rfl rfl (by kernel_rfl)
                exact wpOp_plain rfl (by simp [Region.wanted, yielded, got_some e75 (by omega)]) (u := .agg C) (fun ρ hc hf ht => load_row _ rfl ((ht 4).trans e4) KW2.out Tryd.underlying26 (by rw [CS.out]; exact info_host)) ⟨_, rfl, rfl, Below.refl _ _⟩
              · as_aux_lemma =>
                obtain rfl := Option.some.inj ho
                obtain rfl := Option.some.inj hs
                have e81 : a.tmps.getD 81 undef = .string scheme := hdep 23 _ _ _ rfl rfl rfl (by kernel_rfl)
                have e82 : a.tmps.getD 82 undef = .agg C := hdep 24 _ _ _ rfl rfl rfl (by kernel_rfl)
                have e75 : a.tmps.getD 75 undef = .bool true := hdep 17 _ _ _ rfl rfl rfl (by kernel_rfl)
                exact wpOp_plain rfl (by simp [Region.wanted, yielded, got_some e75 (by omega)]) (u := .agg D) (fun ρ hc hf ht => build17 CC.out DD.out ((ht 81).trans e81) ((ht 82).trans e82)) ⟨_, rfl, rfl, Below.refl _ _⟩
              · as_aux_lemma =>
                obtain rfl := Option.some.inj ho
                obtain rfl := Option.some.inj hs
                have e83 : a.tmps.getD 83 undef = .agg D := hdep 25 _ _ _ rfl rfl rfl (by kernel_rfl)
                have e75 : a.tmps.getD 75 undef = .bool true := hdep 17 _ _ _ rfl rfl rfl (by kernel_rfl)
                refine wpOp_calls (f := 30) (args := #[.slice none 0 0, .agg D]) rfl (by simp [Region.wanted, yielded, got_some e75 (by omega)]) (fun ρ hc hf ht => by have f83 := (ht 83).trans e83; clear ht; simp [go_sem, *]) ?_
                exact (F2.out w2 hbe).mono fun e w' h => ⟨_, h.1, _, rfl, rfl, h.2⟩
              · as_aux_lemma =>
                obtain rfl := Option.some.inj ho
                obtain rfl := Option.some.inj hs
                have e80 : a.tmps.getD 80 undef = .string SX := hdep 22 _ _ _ rfl rfl rfl (by kernel_rfl)
                have e84 : a.tmps.getD 84 undef = .string SX := hdep 26 _ _ _ rfl rfl rfl (by kernel_rfl)
                have e75 : a.tmps.getD 75 undef = .bool true := hdep 17 _ _ _ rfl rfl rfl (by kernel_rfl)
                exact wpOp_plain rfl (by simp [Region.wanted, yielded, got_some e75 (by omega)]) (u := .bool true) (fun ρ hc hf ht => by have f80 := (ht 80).trans e80; have f84 := (ht 84).trans e84; clear ht; simp [go_sem, *]) ⟨_, rfl, rfl, Below.refl _ _⟩
              · as_aux_lemma =>
                obtain rfl := Option.some.inj ho
                obtain rfl := Option.some.inj hs
                have e75 : a.tmps.getD 75 undef = .bool true := hdep 17 _ _ _ rfl rfl rfl (by kernel_rfl)
                have e85 : a.tmps.getD 85 undef = .bool true := hdep 27 _ _ _ rfl rfl rfl (by kernel_rfl)
                exact wpOp_plain rfl rfl (u := .bool true) (fun ρ hc hf ht => by have f75 := (ht 75).trans e75; have f85 := (ht 85).trans e85; clear ht; simp [go_sem, *]) ⟨_, rfl, rfl, Below.refl _ _⟩
              · as_aux_lemma =>
                obtain rfl := Option.some.inj ho
                obtain rfl := Option.some.inj hs
                have e86 : a.tmps.getD 86 undef = .bool true := hdep 28 _ _ _ rfl rfl rfl (by kernel_rfl)
                exact wpOp_plain rfl rfl (u := .bool true) (fun ρ hc hf ht => by have f86 := (ht 86).trans e86; clear ht; simp [go_sem, *]) ⟨_, rfl, rfl, Below.refl _ _⟩
            · intro a w2 hall hdef hbe
              have er : a.tmps.getD 6 undef = .bool true := hall 29 _ _ _ rfl rfl rfl
              rename_i Q9 K9 hK9
              refine hK9 _ _ (wp_ret ?_)
              refine bodyPost_ret (results_tmp (t := 6) rfl a.tmps _ w2) hdef ?_
              rw [er]
              exact ⟨rfl, belowOn Bu6.out Bu6.out.size hbe⟩
        · have HNO := Lib.hid (show ¬ (h.kind = 2 ∧ (labP (labelsL h.name)).2 = true) from fun e => h2 e.1)
          have hne : (h.kind == 2) = false := by simpa using h2
          clear h2
          go_enter Tryd.func11, Tryd.ntmps11
          go_wp2_with fail
          rw [← HW.out]
          refine (HAW.out W BW.out).mono ?_
          rintro e u1 ⟨rfl, hb⟩
          have Ku1 := Lib.hid (KW.out.keep hb)
          have Bu1 := Lib.hid (belowOn BW.out BW.out.size hb)
          clear hb BW KW
          go_wp2_with fail
          refine (F1.out u1 Bu1.out).mono ?_
          rw [hf1]
          rintro e w9 ⟨rfl, rfl⟩
          have x1 := (Ku1.out.cell 1).trans C1.out
          have lt1 := Ku1.out.lt
          go_wp2_with fail
          refine (few17_calls h.name u1).mono ?_
          rintro e u2 ⟨rfl, hb⟩
          have Ku2 := Lib.hid (Ku1.out.keep hb)
          have Bu2 := Lib.hid (belowOn Bu1.out Bu1.out.size hb)
          clear hb Bu1 Ku1
          rw [decide_eq_true hn]
          clear x1 lt1
          go_wp2_with fail
          refine (few17_calls scheme u2).mono ?_
          rintro e u3 ⟨rfl, hb⟩
          have Ku3 := Lib.hid (Ku2.out.keep hb)
          have Bu3 := Lib.hid (belowOn Bu2.out Bu2.out.size hb)
          clear hb Bu2 Ku2
          rw [decide_eq_true hs]
          have x1 := (Ku3.out.cell 1).trans C1.out
          have lt1 := Ku3.out.lt
          have L0 := Lib.hid (reflabels_calls h.name (by omega) u3)
          rw [← HBL.out] at L0
          go_wp2_with fail
          refine L0.out.mono ?_
          rintro e v1 ⟨A1, c1, rfl, -, -, -, hb⟩
          have Bv1 := Lib.hid (belowOn Bu3.out Bu3.out.size hb)
          have Kv1 := Lib.hid (Ku3.out.keep hb)
          clear hb x1 lt1
          have x0 := (Kv1.out.cell 0).trans C0.out
          have lt1 := Kv1.out.lt
          go_wp2_with fail
          clear x0 lt1
          refine (HN.out v1 Bv1.out).mono ?_
          rintro e u4 ⟨⟨t, a, rfl, ht⟩, hb⟩
          have Ku4 := Lib.hid (Kv1.out.keep hb)
          have Bu4 := Lib.hid (belowOn Bv1.out Bv1.out.size hb)
          have Tu4 := Lib.hid ht
          clear ht
          clear hb Bv1 Kv1
          have q := suffix17_calls Tu4.out (HF.out _ Bu4.out) h (by omega)
          rw [no_ends HNO.out, ← CC.out] at q
          have Q0 := Lib.hid q
          clear q
          go_wp2_with (with_reducible refine stopS ?_)
          refine stopS_go ?_
          refine load_hostB Ku4.out CS.out (.tmp 4) rfl rfl rfl ?_
          go_wp2_with fail
          refine (Q0.out).mono ?_
          rintro e u5 ⟨rfl, hb⟩
          have Ku5 := Lib.hid (Ku4.out.keep hb)
          have Tu5 := Lib.hid (Tu4.out.keep hb)
          have Bu5 := Lib.hid (belowOn Bu4.out Bu4.out.size hb)
          clear hb Bu4 Ku4 Tu4
          unfold endsV
          have q := reg17_calls Tu5.out (HF.out _ Bu5.out) h (by omega)
          rw [no_ends HNO.out, ← CC.out] at q
          have Q1 := Lib.hid q
          clear q
          go_wp2_with (with_reducible refine stopS ?_)
          refine stopS_go ?_
          refine load_hostB Ku5.out CS.out (.tmp 4) rfl rfl rfl ?_
          go_wp2_with fail
          refine (Q1.out).mono ?_
          rintro e u6 ⟨rfl, hb⟩
          have Ku6 := Lib.hid (Ku5.out.keep hb)
          have Tu6 := Lib.hid (Tu5.out.keep hb)
          have Bu6 := Lib.hid (belowOn Bu5.out Bu5.out.size hb)
          clear hb Bu5 Ku5 Tu5
          unfold endsV
          have hc1 := fun (V : World) (hb : Below u6.heap.size u6 V) => of17_calls (Tu6.out.keep hb) (HF.out _ (belowOn Bu6.out Bu6.out.size hb)) (⟨false, scheme, h, 0⟩ : OrgV) HO.out (show h.name.size ≤ 200 by omega) (show scheme.size ≤ 200 by omega)
          have hc2 := fun (V : World) (hb : Below u6.heap.size u6 V) => refof17_calls none 0 [] V (fun i x hx => by simp at hx) (fun x hx => by simp at hx) (Nat.le_refl _) (Nat.zero_le _) (⟨false, scheme, h, 0⟩ : OrgV) HO.out (show h.name.size ≤ 200 by omega) (show scheme.size ≤ 200 by omega)
          have hse : siteT (([] : List RulV).map (·.r)) (⟨false, scheme, h, 0⟩ : OrgV) = siteT (l.map (·.r)) (⟨false, scheme, h, 0⟩ : OrgV) := by
            unfold siteT siteH
            simp only [no_ends HNO.out]
          rw [hse, ← DD.out] at hc2
          rw [← DD.out] at hc1
          simp only [List.length_nil] at hc2
          generalize mkB (siteT (l.map (·.r)) (⟨false, scheme, h, 0⟩ : OrgV)) = SX at hc1 hc2
          have F1 := Lib.hid hc1
          have F2 := Lib.hid hc2
          clear hc1 hc2 hse
          go_upto_region 10 with fail
          clear HAW HF HN HROW HOK HW HO C0 C1 Tu6 Q0 Q1
          refine wp_region_RI [.is (.bool true), .is (.bool true), .is (.string ⟨#[]⟩), .is (.bool true), .is (.bool true), .is (.bool true), .is (.bool false), .is (.bool true), .is (.bool true), .is (.bool true), .is (.string ⟨#[]⟩), .is (.bool true), .is (.bool true), .is (.bool true), .is (.bool false), .is (.bool true), .is (.bool true), .is (.bool true), .is (.pointer (some ⟨t, 0, none⟩)), .is (.string scheme), .is (.agg C), .is (.agg D), .is (.string SX), .is (.string scheme), .is (.agg C), .is (.agg D), .is (.string SX), .is (.bool true), .is (.bool true), .is (.bool true)] (by kernel_rfl) (by kernel_rfl) (by kernel_rfl) ?_ ?_
          · intro i o sp ho hs a w2 hbe htz hkept hdep
            have hi : i < 30 := (Array.getElem?_eq_some_iff.1 ho).1
            have hsz : a.tmps.size = 87 := htz
            have KW2 := Lib.hid (Ku6.out.keep hbe)
            have hb7 : a.tmps.getD 7 undef = .bool true := hkept 7 (noDst_spec (by kernel_rfl))
            have hb11 : a.tmps.getD 11 undef = .string ⟨#[]⟩ := hkept 11 (noDst_spec (by kernel_rfl))
            have hb12 : a.tmps.getD 12 undef = .bool false := hkept 12 (noDst_spec (by kernel_rfl))
            have hb13 : a.tmps.getD 13 undef = .string ⟨#[]⟩ := hkept 13 (noDst_spec (by kernel_rfl))
            have hb14 : a.tmps.getD 14 undef = .bool false := hkept 14 (noDst_spec (by kernel_rfl))
            have hb10 : a.tmps.getD 10 undef = .pointer (some ⟨t, 0, none⟩) := hkept 10 (noDst_spec (by kernel_rfl))
            have hb2 : a.tmps.getD 2 undef = .string scheme := hkept 2 (noDst_spec (by kernel_rfl))
            have hb4 : a.tmps.getD 4 undef = .pointer (some ⟨w.heap.size, 0, none⟩) := hkept 4 (noDst_spec (by kernel_rfl))
            rcases (by omega : i = 0 ∨ i = 1 ∨ i = 2 ∨ i = 3 ∨ i = 4 ∨ i = 5 ∨ i = 6 ∨ i = 7 ∨ i = 8 ∨ i = 9 ∨ i = 10 ∨ i = 11 ∨ i = 12 ∨ i = 13 ∨ i = 14 ∨ i = 15 ∨ i = 16 ∨ i = 17 ∨ i = 18 ∨ i = 19 ∨ i = 20 ∨ i = 21 ∨ i = 22 ∨ i = 23 ∨ i = 24 ∨ i = 25 ∨ i = 26 ∨ i = 27 ∨ i = 28 ∨ i = 29) with rfl | rfl | rfl | rfl | rfl | rfl | rfl | rfl | rfl | rfl | rfl | rfl | rfl | rfl | rfl | rfl | rfl | rfl | rfl | rfl | rfl | rfl | rfl | rfl | rfl | rfl | rfl | rfl | rfl | rfl
            · as_aux_lemma =>
              obtain rfl := Option.some.inj ho
              obtain rfl := Option.some.inj hs
              have e7 : a.tmps.getD 7 undef = .bool true := hb7
              exact wpOp_plain rfl rfl (u := .bool true) (fun ρ hc hf ht => by have f7 := (ht 7).trans e7; clear ht; simp [go_sem, *]) ⟨_, rfl, rfl, Below.refl _ _⟩
            · as_aux_lemma =>
              obtain rfl := Option.some.inj ho
              obtain rfl := Option.some.inj hs
              have e58 : a.tmps.getD 58 undef = .bool true := hdep 0 _ _ _ rfl rfl rfl (by kernel_rfl)
              exact wpOp_plain rfl rfl (u := .bool true) (fun ρ hc hf ht => by have f58 := (ht 58).trans e58; clear ht; simp [go_sem, *]) ⟨_, rfl, rfl, Below.refl _ _⟩
            · as_aux_lemma =>
              obtain rfl := Option.some.inj ho
              obtain rfl := Option.some.inj hs
              have e11 : a.tmps.getD 11 undef = .string ⟨#[]⟩ := hb11
              have e59 : a.tmps.getD 59 undef = .bool true := hdep 1 _ _ _ rfl rfl rfl (by kernel_rfl)
              exact wpOp_plain rfl (by simp [Region.wanted, yielded, got_some e59 (by omega)]) (u := .string ⟨#[]⟩) (fun ρ hc hf ht => by have f11 := (ht 11).trans e11; clear ht; simp [go_sem, *]) ⟨_, rfl, rfl, Below.refl _ _⟩
            · as_aux_lemma =>
              obtain rfl := Option.some.inj ho
              obtain rfl := Option.some.inj hs
              have e60 : a.tmps.getD 60 undef = .string ⟨#[]⟩ := hdep 2 _ _ _ rfl rfl rfl (by kernel_rfl)
              have e59 : a.tmps.getD 59 undef = .bool true := hdep 1 _ _ _ rfl rfl rfl (by kernel_rfl)
              exact wpOp_plain rfl (by simp [Region.wanted, yielded, got_some e59 (by omega)]) (u := .bool true) (fun ρ hc hf ht => by have f60 := (ht 60).trans e60; clear ht; simp [go_sem, *]) ⟨_, rfl, rfl, Below.refl _ _⟩
            · as_aux_lemma =>
              obtain rfl := Option.some.inj ho
              obtain rfl := Option.some.inj hs
              have e59 : a.tmps.getD 59 undef = .bool true := hdep 1 _ _ _ rfl rfl rfl (by kernel_rfl)
              have e61 : a.tmps.getD 61 undef = .bool true := hdep 3 _ _ _ rfl rfl rfl (by kernel_rfl)
              exact wpOp_plain rfl rfl (u := .bool true) (fun ρ hc hf ht => by have f59 := (ht 59).trans e59; have f61 := (ht 61).trans e61; clear ht; simp [go_sem, *]) ⟨_, rfl, rfl, Below.refl _ _⟩
            · as_aux_lemma =>
              obtain rfl := Option.some.inj ho
              obtain rfl := Option.some.inj hs
              have e62 : a.tmps.getD 62 undef = .bool true := hdep 4 _ _ _ rfl rfl rfl (by kernel_rfl)
              exact wpOp_plain rfl rfl (u := .bool true) (fun ρ hc hf ht => by have f62 := (ht 62).trans e62; clear ht; simp [go_sem, *]) ⟨_, rfl, rfl, Below.refl _ _⟩
            · as_aux_lemma =>
              obtain rfl := Option.some.inj ho
              obtain rfl := Option.some.inj hs
              have e12 : a.tmps.getD 12 undef = .bool false := hb12
              have e63 : a.tmps.getD 63 undef = .bool true := hdep 5 _ _ _ rfl rfl rfl (by kernel_rfl)
              exact wpOp_plain rfl (by simp [Region.wanted, yielded, got_some e63 (by omega)]) (u := .bool false) (fun ρ hc hf ht => by have f12 := (ht 12).trans e12; clear ht; simp [go_sem, *]) ⟨_, rfl, rfl, Below.refl _ _⟩
            · as_aux_lemma =>
              obtain rfl := Option.some.inj ho
              obtain rfl := Option.some.inj hs
              have e64 : a.tmps.getD 64 undef = .bool false := hdep 6 _ _ _ rfl rfl rfl (by kernel_rfl)
              have e63 : a.tmps.getD 63 undef = .bool true := hdep 5 _ _ _ rfl rfl rfl (by kernel_rfl)
              exact wpOp_plain rfl (by simp [Region.wanted, yielded, got_some e63 (by omega)]) (u := .bool true) (fun ρ hc hf ht => by have f64 := (ht 64).trans e64; clear ht; simp [go_sem, *]) ⟨_, rfl, rfl, Below.refl _ _⟩
            · as_aux_lemma =>
              obtain rfl := Option.some.inj ho
              obtain rfl := Option.some.inj hs
              have e63 : a.tmps.getD 63 undef = .bool true := hdep 5 _ _ _ rfl rfl rfl (by kernel_rfl)
              have e65 : a.tmps.getD 65 undef = .bool true := hdep 7 _ _ _ rfl rfl rfl (by kernel_rfl)
              exact wpOp_plain rfl rfl (u := .bool true) (fun ρ hc hf ht => by have f63 := (ht 63).trans e63; have f65 := (ht 65).trans e65; clear ht; simp [go_sem, *]) ⟨_, rfl, rfl, Below.refl _ _⟩
            · as_aux_lemma =>
              obtain rfl := Option.some.inj ho
              obtain rfl := Option.some.inj hs
              have e66 : a.tmps.getD 66 undef = .bool true := hdep 8 _ _ _ rfl rfl rfl (by kernel_rfl)
              exact wpOp_plain rfl rfl (u := .bool true) (fun ρ hc hf ht => by have f66 := (ht 66).trans e66; clear ht; simp [go_sem, *]) ⟨_, rfl, rfl, Below.refl _ _⟩
            · as_aux_lemma =>
              obtain rfl := Option.some.inj ho
              obtain rfl := Option.some.inj hs
              have e13 : a.tmps.getD 13 undef = .string ⟨#[]⟩ := hb13
              have e67 : a.tmps.getD 67 undef = .bool true := hdep 9 _ _ _ rfl rfl rfl (by kernel_rfl)
              exact wpOp_plain rfl (by simp [Region.wanted, yielded, got_some e67 (by omega)]) (u := .string ⟨#[]⟩) (fun ρ hc hf ht => by have f13 := (ht 13).trans e13; clear ht; simp [go_sem, *]) ⟨_, rfl, rfl, Below.refl _ _⟩
            · as_aux_lemma =>
              obtain rfl := Option.some.inj ho
              obtain rfl := Option.some.inj hs
              have e68 : a.tmps.getD 68 undef = .string ⟨#[]⟩ := hdep 10 _ _ _ rfl rfl rfl (by kernel_rfl)
              have e67 : a.tmps.getD 67 undef = .bool true := hdep 9 _ _ _ rfl rfl rfl (by kernel_rfl)
              exact wpOp_plain rfl (by simp [Region.wanted, yielded, got_some e67 (by omega)]) (u := .bool true) (fun ρ hc hf ht => by have f68 := (ht 68).trans e68; clear ht; simp [go_sem, *]) ⟨_, rfl, rfl, Below.refl _ _⟩
            · as_aux_lemma =>
              obtain rfl := Option.some.inj ho
              obtain rfl := Option.some.inj hs
              have e67 : a.tmps.getD 67 undef = .bool true := hdep 9 _ _ _ rfl rfl rfl (by kernel_rfl)
              have e69 : a.tmps.getD 69 undef = .bool true := hdep 11 _ _ _ rfl rfl rfl (by kernel_rfl)
              exact wpOp_plain rfl rfl (u := .bool true) (fun ρ hc hf ht => by have f67 := (ht 67).trans e67; have f69 := (ht 69).trans e69; clear ht; simp [go_sem, *]) ⟨_, rfl, rfl, Below.refl _ _⟩
            · as_aux_lemma =>
              obtain rfl := Option.some.inj ho
              obtain rfl := Option.some.inj hs
              have e70 : a.tmps.getD 70 undef = .bool true := hdep 12 _ _ _ rfl rfl rfl (by kernel_rfl)
              exact wpOp_plain rfl rfl (u := .bool true) (fun ρ hc hf ht => by have f70 := (ht 70).trans e70; clear ht; simp [go_sem, *]) ⟨_, rfl, rfl, Below.refl _ _⟩
            · as_aux_lemma =>
              obtain rfl := Option.some.inj ho
              obtain rfl := Option.some.inj hs
              have e14 : a.tmps.getD 14 undef = .bool false := hb14
              have e71 : a.tmps.getD 71 undef = .bool true := hdep 13 _ _ _ rfl rfl rfl (by kernel_rfl)
              exact wpOp_plain rfl (by simp [Region.wanted, yielded, got_some e71 (by omega)]) (u := .bool false) (fun ρ hc hf ht => by have f14 := (ht 14).trans e14; clear ht; simp [go_sem, *]) ⟨_, rfl, rfl, Below.refl _ _⟩
            · as_aux_lemma =>
              obtain rfl := Option.some.inj ho
              obtain rfl := Option.some.inj hs
              have e72 : a.tmps.getD 72 undef = .bool false := hdep 14 _ _ _ rfl rfl rfl (by kernel_rfl)
              have e71 : a.tmps.getD 71 undef = .bool true := hdep 13 _ _ _ rfl rfl rfl (by kernel_rfl)
              exact wpOp_plain rfl (by simp [Region.wanted, yielded, got_some e71 (by omega)]) (u := .bool true) (fun ρ hc hf ht => by have f72 := (ht 72).trans e72; clear ht; simp [go_sem, *]) ⟨_, rfl, rfl, Below.refl _ _⟩
            · as_aux_lemma =>
              obtain rfl := Option.some.inj ho
              obtain rfl := Option.some.inj hs
              have e71 : a.tmps.getD 71 undef = .bool true := hdep 13 _ _ _ rfl rfl rfl (by kernel_rfl)
              have e73 : a.tmps.getD 73 undef = .bool true := hdep 15 _ _ _ rfl rfl rfl (by kernel_rfl)
              exact wpOp_plain rfl rfl (u := .bool true) (fun ρ hc hf ht => by have f71 := (ht 71).trans e71; have f73 := (ht 73).trans e73; clear ht; simp [go_sem, *]) ⟨_, rfl, rfl, Below.refl _ _⟩
            · as_aux_lemma =>
              obtain rfl := Option.some.inj ho
              obtain rfl := Option.some.inj hs
              have e74 : a.tmps.getD 74 undef = .bool true := hdep 16 _ _ _ rfl rfl rfl (by kernel_rfl)
              exact wpOp_plain rfl rfl (u := .bool true) (fun ρ hc hf ht => by have f74 := (ht 74).trans e74; clear ht; simp [go_sem, *]) ⟨_, rfl, rfl, Below.refl _ _⟩
            · as_aux_lemma =>
              obtain rfl := Option.some.inj ho
              obtain rfl := Option.some.inj hs
              have e10 : a.tmps.getD 10 undef = .pointer (some ⟨t, 0, none⟩) := hb10
              have e75 : a.tmps.getD 75 undef = .bool true := hdep 17 _ _ _ rfl rfl rfl (by kernel_rfl)
              exact wpOp_plain rfl (by simp [Region.wanted, yielded, got_some e75 (by omega)]) (u := .pointer (some ⟨t, 0, none⟩)) (fun ρ hc hf ht => by have f10 := (ht 10).trans e10; clear ht; simp [go_sem, *]) ⟨_, rfl, rfl, Below.refl _ _⟩
            · as_aux_lemma =>
              obtain rfl := Option.some.inj ho
              obtain rfl := Option.some.inj hs
              have e2 : a.tmps.getD 2 undef = .string scheme := hb2
              have e75 : a.tmps.getD 75 undef = .bool true := hdep 17 _ _ _ rfl rfl rfl (by kernel_rfl)
              exact wpOp_plain rfl (by simp [Region.wanted, yielded, got_some e75 (by omega)]) (u := .string scheme) (fun ρ hc hf ht => by have f2 := (ht 2).trans e2; clear ht; simp [go_sem, *]) ⟨_, rfl, rfl, Below.refl _ _⟩
            · as_aux_lemma =>
              obtain rfl := Option.some.inj ho
              obtain rfl := Option.some.inj hs
              have e4 : a.tmps.getD 4 undef = .pointer (some ⟨w.heap.size, 0, none⟩) := hb4
              have e75 : a.tmps.getD 75 undef = .bool true := hdep 17 _ _ _ rfl rfl rfl (by kernel_rfl)
              exact wpOp_plain rfl (by simp [Region.wanted, yielded, got_some e75 (by omega)]) (u := .agg C) (fun ρ hc hf ht => load_row _ rfl ((ht 4).trans e4) KW2.out Tryd.underlying26 (by rw [CS.out]; exact info_host)) ⟨_, rfl, rfl, Below.refl _ _⟩
            · as_aux_lemma =>
              obtain rfl := Option.some.inj ho
              obtain rfl := Option.some.inj hs
              have e77 : a.tmps.getD 77 undef = .string scheme := hdep 19 _ _ _ rfl rfl rfl (by kernel_rfl)
              have e78 : a.tmps.getD 78 undef = .agg C := hdep 20 _ _ _ rfl rfl rfl (by kernel_rfl)
              have e75 : a.tmps.getD 75 undef = .bool true := hdep 17 _ _ _ rfl rfl rfl (by kernel_rfl)
              exact wpOp_plain rfl (by simp [Region.wanted, yielded, got_some e75 (by omega)]) (u := .agg D) (fun ρ hc hf ht => build17 CC.out DD.out ((ht 77).trans e77) ((ht 78).trans e78)) ⟨_, rfl, rfl, Below.refl _ _⟩
            · as_aux_lemma =>
              obtain rfl := Option.some.inj ho
              obtain rfl := Option.some.inj hs
              have e76 : a.tmps.getD 76 undef = .pointer (some ⟨t, 0, none⟩) := hdep 18 _ _ _ rfl rfl rfl (by kernel_rfl)
              have e79 : a.tmps.getD 79 undef = .agg D := hdep 21 _ _ _ rfl rfl rfl (by kernel_rfl)
              have e75 : a.tmps.getD 75 undef = .bool true := hdep 17 _ _ _ rfl rfl rfl (by kernel_rfl)
              refine wpOp_calls (f := 31) (args := #[.pointer (some ⟨t, 0, none⟩), .agg D]) rfl (by simp [Region.wanted, yielded, got_some e75 (by omega)]) (fun ρ hc hf ht => by have f76 := (ht 76).trans e76; have f79 := (ht 79).trans e79; clear ht; simp [go_sem, *]) ?_
              exact (F1.out w2 hbe).mono fun e w' h => ⟨_, h.1, _, rfl, rfl, h.2⟩
            · as_aux_lemma =>
              obtain rfl := Option.some.inj ho
              obtain rfl := Option.some.inj hs
              have e2 : a.tmps.getD 2 undef = .string scheme := hb2
              have e75 : a.tmps.getD 75 undef = .bool true := hdep 17 _ _ _ rfl rfl rfl (by kernel_rfl)
              exact wpOp_plain rfl (by simp [Region.wanted, yielded, got_some e75 (by omega)]) (u := .string scheme) (fun ρ hc hf ht => by have f2 := (ht 2).trans e2; clear ht; simp [go_sem, *]) ⟨_, rfl, rfl, Below.refl _ _⟩
            · as_aux_lemma =>
              obtain rfl := Option.some.inj ho
              obtain rfl := Option.some.inj hs
              have e4 : a.tmps.getD 4 undef = .pointer (some ⟨w.heap.size, 0, none⟩) := hb4
              have e75 : a.tmps.getD 75 undef = .bool true := hdep 17 _ _ _ rfl rfl rfl (by kernel_rfl)
              exact wpOp_plain rfl (by simp [Region.wanted, yielded, got_some e75 (by omega)]) (u := .agg C) (fun ρ hc hf ht => load_row _ rfl ((ht 4).trans e4) KW2.out Tryd.underlying26 (by rw [CS.out]; exact info_host)) ⟨_, rfl, rfl, Below.refl _ _⟩
            · as_aux_lemma =>
              obtain rfl := Option.some.inj ho
              obtain rfl := Option.some.inj hs
              have e81 : a.tmps.getD 81 undef = .string scheme := hdep 23 _ _ _ rfl rfl rfl (by kernel_rfl)
              have e82 : a.tmps.getD 82 undef = .agg C := hdep 24 _ _ _ rfl rfl rfl (by kernel_rfl)
              have e75 : a.tmps.getD 75 undef = .bool true := hdep 17 _ _ _ rfl rfl rfl (by kernel_rfl)
              exact wpOp_plain rfl (by simp [Region.wanted, yielded, got_some e75 (by omega)]) (u := .agg D) (fun ρ hc hf ht => build17 CC.out DD.out ((ht 81).trans e81) ((ht 82).trans e82)) ⟨_, rfl, rfl, Below.refl _ _⟩
            · as_aux_lemma =>
              obtain rfl := Option.some.inj ho
              obtain rfl := Option.some.inj hs
              have e83 : a.tmps.getD 83 undef = .agg D := hdep 25 _ _ _ rfl rfl rfl (by kernel_rfl)
              have e75 : a.tmps.getD 75 undef = .bool true := hdep 17 _ _ _ rfl rfl rfl (by kernel_rfl)
              refine wpOp_calls (f := 30) (args := #[.slice none 0 0, .agg D]) rfl (by simp [Region.wanted, yielded, got_some e75 (by omega)]) (fun ρ hc hf ht => by have f83 := (ht 83).trans e83; clear ht; simp [go_sem, *]) ?_
              exact (F2.out w2 hbe).mono fun e w' h => ⟨_, h.1, _, rfl, rfl, h.2⟩
            · as_aux_lemma =>
              obtain rfl := Option.some.inj ho
              obtain rfl := Option.some.inj hs
              have e80 : a.tmps.getD 80 undef = .string SX := hdep 22 _ _ _ rfl rfl rfl (by kernel_rfl)
              have e84 : a.tmps.getD 84 undef = .string SX := hdep 26 _ _ _ rfl rfl rfl (by kernel_rfl)
              have e75 : a.tmps.getD 75 undef = .bool true := hdep 17 _ _ _ rfl rfl rfl (by kernel_rfl)
              exact wpOp_plain rfl (by simp [Region.wanted, yielded, got_some e75 (by omega)]) (u := .bool true) (fun ρ hc hf ht => by have f80 := (ht 80).trans e80; have f84 := (ht 84).trans e84; clear ht; simp [go_sem, *]) ⟨_, rfl, rfl, Below.refl _ _⟩
            · as_aux_lemma =>
              obtain rfl := Option.some.inj ho
              obtain rfl := Option.some.inj hs
              have e75 : a.tmps.getD 75 undef = .bool true := hdep 17 _ _ _ rfl rfl rfl (by kernel_rfl)
              have e85 : a.tmps.getD 85 undef = .bool true := hdep 27 _ _ _ rfl rfl rfl (by kernel_rfl)
              exact wpOp_plain rfl rfl (u := .bool true) (fun ρ hc hf ht => by have f75 := (ht 75).trans e75; have f85 := (ht 85).trans e85; clear ht; simp [go_sem, *]) ⟨_, rfl, rfl, Below.refl _ _⟩
            · as_aux_lemma =>
              obtain rfl := Option.some.inj ho
              obtain rfl := Option.some.inj hs
              have e86 : a.tmps.getD 86 undef = .bool true := hdep 28 _ _ _ rfl rfl rfl (by kernel_rfl)
              exact wpOp_plain rfl rfl (u := .bool true) (fun ρ hc hf ht => by have f86 := (ht 86).trans e86; clear ht; simp [go_sem, *]) ⟨_, rfl, rfl, Below.refl _ _⟩
          · intro a w2 hall hdef hbe
            have er : a.tmps.getD 6 undef = .bool true := hall 29 _ _ _ rfl rfl rfl
            rename_i Q9 K9 hK9
            refine hK9 _ _ (wp_ret ?_)
            refine bodyPost_ret (results_tmp (t := 6) rfl a.tmps _ w2) hdef ?_
            rw [er]
            exact ⟨rfl, belowOn Bu6.out Bu6.out.size hbe⟩
      · go_enter Tryd.func11, Tryd.ntmps11
        go_wp2_with fail
        rw [← HW.out]
        refine (HAW.out W BW.out).mono ?_
        rintro e u1 ⟨rfl, hb⟩
        have Ku1 := Lib.hid (KW.out.keep hb)
        have Bu1 := Lib.hid (belowOn BW.out BW.out.size hb)
        clear hb BW KW
        go_wp2_with fail
        refine (F1.out u1 Bu1.out).mono ?_
        rw [hf1]
        rintro e w9 ⟨rfl, rfl⟩
        have x1 := (Ku1.out.cell 1).trans C1.out
        have lt1 := Ku1.out.lt
        go_wp2_with fail
        refine (few17_calls h.name u1).mono ?_
        rintro e u2 ⟨rfl, hb⟩
        have Ku2 := Lib.hid (Ku1.out.keep hb)
        have Bu2 := Lib.hid (belowOn Bu1.out Bu1.out.size hb)
        clear hb Bu1 Ku1
        rw [decide_eq_true hn]
        clear x1 lt1
        go_wp2_with fail
        refine (few17_calls scheme u2).mono ?_
        rintro e u3 ⟨rfl, hb⟩
        have Ku3 := Lib.hid (Ku2.out.keep hb)
        have Bu3 := Lib.hid (belowOn Bu2.out Bu2.out.size hb)
        clear hb Bu2 Ku2
        rw [decide_eq_false hs]
        go_wp2_with fail
        go_ret
        exact ⟨rfl, Bu3.out⟩
    · go_enter Tryd.func11, Tryd.ntmps11
      go_wp2_with fail
      rw [← HW.out]
      refine (HAW.out W BW.out).mono ?_
      rintro e u1 ⟨rfl, hb⟩
      have Ku1 := Lib.hid (KW.out.keep hb)
      have Bu1 := Lib.hid (belowOn BW.out BW.out.size hb)
      clear hb BW KW
      go_wp2_with fail
      refine (F1.out u1 Bu1.out).mono ?_
      rw [hf1]
      rintro e w9 ⟨rfl, rfl⟩
      have x1 := (Ku1.out.cell 1).trans C1.out
      have lt1 := Ku1.out.lt
      go_wp2_with fail
      refine (few17_calls h.name u1).mono ?_
      rintro e u2 ⟨rfl, hb⟩
      have Ku2 := Lib.hid (Ku1.out.keep hb)
      have Bu2 := Lib.hid (belowOn Bu1.out Bu1.out.size hb)
      clear hb Bu1 Ku1
      rw [decide_eq_false hn]
      clear x1 lt1
      go_wp2_with fail
      go_ret
      exact ⟨rfl, Bu2.out⟩
end Go.Proofs.YtgljkgkmbfhgiaaDoor
