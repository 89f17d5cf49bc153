/- SiteTells, walked. -/
import Derived.Test.YtgljkgkmbfhgiaaDoorSiteAwake
set_option linter.unusedVariables false
set_option linter.unusedSimpArgs false
set_option maxRecDepth 100000
namespace Go.Proofs.YtgljkgkmbfhgiaaDoor
open Go.RowKit Four Six Rec

set_option maxHeartbeats 4000000 in
theorem tells_calls {w : World} (hF : FW w) (A : Option Addr) (c : Nat) (l : List RulV) (hr : RowAt RulV.cells 2 w A l) (hok : ∀ x ∈ l, x.ok w) (hlc : l.length ≤ c) (hcm : c ≤ maxLen) (h : HostV) :
    Calls Tryd.prog 8 #[.slice A l.length c, .agg h.cells.toArray] w fun e w' => e = .returned (.bool true) ∧ Below w.heap.size w w' := by
  have HAW := Lib.hid (fun (W : World) (hb : Below w.heap.size w W) => awake_calls (hF.keep hb))
  have HF := Lib.hid (fun (W : World) (hb : Below w.heap.size w W) => hF.keep hb)
  have F1 := Lib.hid (fun (W : World) (hb : Below w.heap.size w W) => few_rules A c l W (hr.keep hb) (fun x hx => (hok x hx).keep hb) hlc hcm)
  have HN := Lib.hid (fun (W : World) (hb : Below w.heap.size w W) => new_calls A c l W 1 (hr.keep hb) (fun x hx => (hok x hx).keep hb) hlc hcm)
  have HROW := Lib.hid hr
  have HOK := Lib.hid hok
  clear hF hr hok
  obtain ⟨C, hC⟩ : ∃ C, C = h.cells.toArray := ⟨_, rfl⟩
  have hC1 : C[1]? = some (.string h.name) := by rw [hC]; rfl
  have hCs : C.size = 11 := by rw [hC]; rfl
  have CS := Lib.hid hCs
  have CC := Lib.hid hC
  have C1 := Lib.hid hC1
  rw [← hC]
  obtain ⟨W, hW⟩ : ∃ W, W = w.alloc (.cells C 26) := ⟨_, rfl⟩
  have BW := Lib.hid (show Below w.heap.size w W by rw [hW]; exact (Below.refl _ _).alloc (Nat.le_refl _) _)
  have KW := Lib.hid (show Blk W w.heap.size 26 C by rw [hW]; exact Blk.new w _ _)
  have HW := Lib.hid hW
  clear hC hC1 hCs hW
  cases hf1 : fewR l
  · go_enter Tryd.func8, Tryd.ntmps8
    go_wp2_with fail
    rw [← HW.out]
    refine (HAW.out W BW.out).mono ?_
    rintro e u1 ⟨rfl, hb⟩
    have Ku1 := Lib.hid (KW.out.keep hb)
    have Bu1 := Lib.hid (belowOn BW.out BW.out.size hb)
    clear hb BW KW
    go_wp2_with fail
    refine (F1.out u1 Bu1.out).mono ?_
    rw [hf1]
    rintro e w9 ⟨rfl, rfl⟩
    have x1 := (Ku1.out.cell 1).trans C1.out
    have lt1 := Ku1.out.lt
    go_wp2_with fail
    go_ret
    exact ⟨rfl, Bu1.out⟩
  · by_cases hn : h.name.size ≤ 100
    · go_enter Tryd.func8, Tryd.ntmps8
      go_wp2_with fail
      rw [← HW.out]
      refine (HAW.out W BW.out).mono ?_
      rintro e u1 ⟨rfl, hb⟩
      have Ku1 := Lib.hid (KW.out.keep hb)
      have Bu1 := Lib.hid (belowOn BW.out BW.out.size hb)
      clear hb BW KW
      go_wp2_with fail
      refine (F1.out u1 Bu1.out).mono ?_
      rw [hf1]
      rintro e w9 ⟨rfl, rfl⟩
      have x1 := (Ku1.out.cell 1).trans C1.out
      have lt1 := Ku1.out.lt
      go_wp2_with fail
      refine (few17_calls h.name u1).mono ?_
      rintro e u2 ⟨rfl, hb⟩
      have Ku2 := Lib.hid (Ku1.out.keep hb)
      have Bu2 := Lib.hid (belowOn Bu1.out Bu1.out.size hb)
      clear hb Bu1 Ku1
      rw [decide_eq_true hn]
      clear x1 lt1
      go_wp2_with fail
      refine (HN.out u2 Bu2.out).mono ?_
      rintro e u3 ⟨⟨t, a, rfl, ht⟩, hb⟩
      have Ku3 := Lib.hid (Ku2.out.keep hb)
      have Bu3 := Lib.hid (belowOn Bu2.out Bu2.out.size hb)
      have Tu3 := Lib.hid ht
      clear ht
      clear hb Bu2 Ku2
      obtain ⟨s0, b0, hs0⟩ := endsV_eq (endsP (l.map (·.r)) h 0)
      obtain ⟨s1, b1, hs1⟩ := endsV_eq (endsP (l.map (·.r)) h 1)
      have q := suffix17_calls Tu3.out (HF.out _ Bu3.out) h (by omega)
      rw [hs0, ← CC.out] at q
      have Q0 := Lib.hid q
      clear q
      go_wp2_with (with_reducible refine stopS ?_)
      refine stopS_go ?_
      refine load_hostB Ku3.out CS.out (.tmp 3) rfl rfl rfl ?_
      go_wp2_with fail
      refine (Q0.out).mono ?_
      rintro e u4 ⟨rfl, hb⟩
      have Ku4 := Lib.hid (Ku3.out.keep hb)
      have Tu4 := Lib.hid (Tu3.out.keep hb)
      have Bu4 := Lib.hid (belowOn Bu3.out Bu3.out.size hb)
      clear hb Bu3 Ku3 Tu3
      have q := reg17_calls Tu4.out (HF.out _ Bu4.out) h (by omega)
      rw [hs1, ← CC.out] at q
      have Q1 := Lib.hid q
      clear q
      go_wp2_with (with_reducible refine stopS ?_)
      refine stopS_go ?_
      refine load_hostB Ku4.out CS.out (.tmp 3) rfl rfl rfl ?_
      go_wp2_with fail
      refine (Q1.out).mono ?_
      rintro e u5 ⟨rfl, hb⟩
      have Ku5 := Lib.hid (Ku4.out.keep hb)
      have Tu5 := Lib.hid (Tu4.out.keep hb)
      have Bu5 := Lib.hid (belowOn Bu4.out Bu4.out.size hb)
      clear hb Bu4 Ku4 Tu4
      have q := refsuffix17_calls A c l u5 (HROW.out.keep Bu5.out) (fun x hx => (HOK.out x hx).keep Bu5.out) hlc hcm h (by omega)
      rw [hs0, ← CC.out] at q
      have R0 := Lib.hid q
      clear q
      go_wp2_with (with_reducible refine stopS ?_)
      refine stopS_go ?_
      refine load_hostB Ku5.out CS.out (.tmp 3) rfl rfl rfl ?_
      go_wp2_with fail
      refine (R0.out).mono ?_
      rintro e u6 ⟨rfl, hb⟩
      have Ku6 := Lib.hid (Ku5.out.keep hb)
      have Tu6 := Lib.hid (Tu5.out.keep hb)
      have Bu6 := Lib.hid (belowOn Bu5.out Bu5.out.size hb)
      clear hb Bu5 Ku5 Tu5
      have q := refreg17_calls A c l u6 (HROW.out.keep Bu6.out) (fun x hx => (HOK.out x hx).keep Bu6.out) hlc hcm h (by omega)
      rw [hs1, ← CC.out] at q
      have R1 := Lib.hid q
      clear q
      go_wp2_with (with_reducible refine stopS ?_)
      refine stopS_go ?_
      refine load_hostB Ku6.out CS.out (.tmp 3) rfl rfl rfl ?_
      go_wp2_with fail
      refine (R1.out).mono ?_
      rintro e u7 ⟨rfl, hb⟩
      have Ku7 := Lib.hid (Ku6.out.keep hb)
      have Tu7 := Lib.hid (Tu6.out.keep hb)
      have Bu7 := Lib.hid (belowOn Bu6.out Bu6.out.size hb)
      clear hb Bu6 Ku6 Tu6
      go_wp2_with fail
      go_ret
      exact ⟨rfl, Bu7.out⟩
    · go_enter Tryd.func8, Tryd.ntmps8
      go_wp2_with fail
      rw [← HW.out]
      refine (HAW.out W BW.out).mono ?_
      rintro e u1 ⟨rfl, hb⟩
      have Ku1 := Lib.hid (KW.out.keep hb)
      have Bu1 := Lib.hid (belowOn BW.out BW.out.size hb)
      clear hb BW KW
      go_wp2_with fail
      refine (F1.out u1 Bu1.out).mono ?_
      rw [hf1]
      rintro e w9 ⟨rfl, rfl⟩
      have x1 := (Ku1.out.cell 1).trans C1.out
      have lt1 := Ku1.out.lt
      go_wp2_with fail
      refine (few17_calls h.name u1).mono ?_
      rintro e u2 ⟨rfl, hb⟩
      have Ku2 := Lib.hid (Ku1.out.keep hb)
      have Bu2 := Lib.hid (belowOn Bu1.out Bu1.out.size hb)
      clear hb Bu1 Ku1
      rw [decide_eq_false hn]
      clear x1 lt1
      go_wp2_with fail
      go_ret
      exact ⟨rfl, Bu2.out⟩
end Go.Proofs.YtgljkgkmbfhgiaaDoor
