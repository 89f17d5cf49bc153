/- The law IpfourForms: for every number of 32 bits and every byte the call returns true, and what was there before is as it was: fewer parts are the same address: the last one has the bytes of those that are left out. The card ties the package's variables to the program's text. No condition. -/
import Derived.Test.YtcclghpoodbdcaaDoorRow
import Derived.Test.YtcclghpoodbdcaaDoorFourDoor
import Derived.Test.YtcclghpoodbdcaaDoorTie
import Derived.Test.YtcclghpoodbdcaaDoorCards
import Derived.ChangeSame
import Derived.ChangeVars
import Derived.JoinedOf
import Derived.RowKitTokens
import Derived.LaidLaws
import Derived.LaidHandle
import Derived.Stop.Joined
import Derived.SevenTiedAt
import Derived.SizedLaws
import Derived.Test.YtcclghpoodbdcaaDoorFourFormsWalk
import Derived.Test.YtcclghpoodbdcaaDoorShape
set_option linter.unusedVariables false
set_option linter.unusedSimpArgs false
namespace Go.Proofs.YtcclghpoodbdcaaDoor.ipfourForms
open Go.ChangeShapes Go.WideShapes Go.ChangeAt Go.RowKit
open Go.ChangeMaps (open_string shut_string)
set_option maxRecDepth 100000 in
theorem lifted (os : Os) (started : os.Started) (H : Type) (enc : TypeId × Value → H) :
    ReturnsInHanded {} Tryd.checked os 6 .any (fun w args => (Rows.ipfourFormsSpec.pre enc Tryd.prog Tryd.f6 [] false w args ∧ laidMetH Tryd.prog Rows.ipfourFormsRow.laid w) ∧ sizedMet enc Tryd.prog Tryd.f6 (OpenSpec.ofChange Rows.ipfourFormsSpec) false w args) (Rows.ipfourFormsSpec.post enc Tryd.prog Tryd.f6 false true false false) := by
  refine wrap_shape (C := Tryd.checked) Rows.ipfourFormsRow.laid own started (by kernel_rfl) Tryd.func6
    (ChangeSpec.witness_shaped (enc := enc) (C := Tryd.checked) (os := os) (X := fun w _ => laidMetH Tryd.prog Rows.ipfourFormsRow.laid w) false (laidWorld os) #[.int .u32 0, .int .u8 0] 8 rfl (World.shaped_of_RefB (by kernel_rfl) (by kernel_rfl)) (by kernel_rfl) (by kernel_rfl) (by kernel_rfl) (laidWorld_met os _)) ?_
  intro W base args ds gs before hval0 hW hsz0 hlaid hshape
  have hsz : (DataW.weightsEach Tryd.prog (Tryd.f6.params.toList ++ Rows.ipfourFormsSpec.plain.varTypes Tryd.prog) (ds ++ gs)).all (· ≤ reachBytes) = true := hsz0
  have hval : ∀ (j : Nat) t v, Tryd.f6.params[j]? = some t → args[j]? = some v → Value.okWide Tryd.prog W .any base t v := hval0
  have hW' := hW
  obtain ⟨p, q, hA0, hV, hpq, hfz, hnd⟩ := hW
  have hA : DataW.TrodAll enc Tryd.prog W 0 (fun _ => true) true Tryd.f6.params.toList args.toList ds p := hA0
  rw [Tryd.params6] at hA hval hsz
  obtain ⟨v0, vs0, d0, ds0, p0, q0, hargs, rfl, hp0, h0, r0⟩ := trodAll_cons hA
  obtain ⟨v1, vs1, d1, ds1, p1, q1, rfl, rfl, rfl, h1, r1⟩ := trodAll_cons r0
  obtain ⟨rfl, rfl, rfl⟩ := trodAll_nil r1
  obtain rfl : args = #[v0, v1] := by cases args; simp_all
  obtain ⟨rfl, rfl⟩ := trodVars_none hV
  obtain ⟨a0, rfl, rfl, rfl, w0⟩ := open_int Tryd.underlying22 (hval 0 22 v0 rfl rfl) h0
  obtain ⟨a1, rfl, rfl, rfl, w1⟩ := open_int Tryd.underlying5 (hval 1 5 v1 rfl rfl) h1
  have hb0 : 0 ≤ a0 ∧ a0 ≤ 4294967295 := by have h := w0; simp only [Lit.wf, Bool.and_eq_true, decide_eq_true_eq] at h; exact h
  obtain ⟨n0, rfl⟩ := Int.eq_ofNat_of_zero_le hb0.1
  have hb1 : 0 ≤ a1 ∧ a1 ≤ 255 := by have h := w1; simp only [Lit.wf, Bool.and_eq_true, decide_eq_true_eq] at h; exact h
  obtain ⟨n1, rfl⟩ := Int.eq_ofNat_of_zero_le hb1.1
  refine (forms_calls n0 n1 (by omega) (by omega) W (fw_of hlaid hshape)).mono fun e W' ⟨he, hg⟩ => ?_
  subst he
  exact ⟨_, rfl, law_post (by kernel_rfl) hW' rfl rfl Tryd.underlying4 rfl hg⟩

theorem over : Rows.ipfourFormsRow.holds Tryd.pinned (OpenSpec.ofChange Rows.ipfourFormsSpec) :=
  OpenClaim.holds_of_wide 6 Tryd.f6 rfl rfl rfl rfl rfl rfl rfl ⟨rfl, rfl, rfl, rfl, rfl⟩ rfl rfl rfl rfl rfl (by kernel_rfl) Tryd.func6 (by kernel_rfl)
    (of_decide_eq_true (by kernel_rfl)) (by unfold Func.isWrapper; first | (rw [if_pos (by decide +kernel)]; kernel_rfl) | (rw [if_neg (by decide +kernel)]; exact ⟨rfl, rfl⟩))
    (fun os started H enc _ => lifted os started H enc)

theorem proved : Rows.IpfourFormsCardSaid :=
  Claim7.holds_tied_plain_at .later [] [.data, .data, .data, .data, .pinned] true (true, "ced8cd3b88c55e0ef68c5a8818a3d51f8051e602d9faccd386f9a988b9f6a042") true
    over (fun _ h => by cases h) (by kernel_rfl) (fun _ h => by cases h) ipfourForms_row_tie rfl ⟨rfl, rfl⟩ (by kernel_rfl) rfl
    (fun f fn hf hfn => by
      obtain rfl : f = 6 := Option.some.inj ((show Tryd.prog.funcNamed "gatepost/gatepostlaw07.IpfourForms" = some 6 by kernel_rfl).symm.trans hf) |>.symm
      obtain rfl : fn = Tryd.f6 := (Option.some.inj (Tryd.func6.symm.trans hfn)).symm
      exact ⟨by kernel_rfl, fun j t ht => by
        rw [Tryd.params6] at ht
        have hall : ∀ t ∈ (#[22, 5] : Array TypeId).toList, Tryd.prog.wantsStandIn t = false := by
          intro t ht
          simp only [List.mem_cons, List.not_mem_nil, or_false] at ht
          rcases ht with rfl | rfl
          · kernel_rfl
          · kernel_rfl
        exact hall t (by have := Array.mem_of_getElem? ht; simpa using this)⟩)
    (by kernel_rfl)
#print axioms proved
end Go.Proofs.YtcclghpoodbdcaaDoor.ipfourForms
