/- The law IpsixBack: for every two addresses the call returns true, and what was there before is as it was: an address is told there and back; of two addresses texts are the same just if they are. The card ties the package's variables to the program's text. No condition. -/
import Derived.Test.YtodpjdeffhbkpaaGreatDoorRow
import Derived.Test.YtodpjdeffhbkpaaGreatDoorSixDoor
import Derived.Test.YtodpjdeffhbkpaaGreatDoorTie
import Derived.Test.YtodpjdeffhbkpaaGreatDoorCards
import Derived.ChangeSame
import Derived.ChangeVars
import Derived.JoinedOf
import Derived.RowKitTokens
import Derived.LaidLaws
import Derived.LaidHandle
import Derived.Stop.Joined
import Derived.SevenTiedAt
import Derived.SizedLaws
import Derived.Test.YtodpjdeffhbkpaaGreatDoorSixBackWalk
import Derived.Test.YtodpjdeffhbkpaaGreatDoorSixOpen
import Derived.Test.YtodpjdeffhbkpaaGreatDoorShape
set_option linter.unusedVariables false
set_option linter.unusedSimpArgs false
namespace Go.Proofs.YtodpjdeffhbkpaaGreatDoor.ipsixBack
open Go.ChangeShapes Go.WideShapes Go.ChangeAt Go.RowKit
open Go.ChangeMaps (open_string shut_string)
set_option maxRecDepth 100000 in
theorem lifted (os : Os) (started : os.Started) (H : Type) (enc : TypeId × Value → H) :
    ReturnsInHanded {} Tryz.checked os 6 .any (fun w args => (Rows.ipsixBackSpec.pre enc Tryz.prog Tryz.f6 [] false w args ∧ laidMetH Tryz.prog Rows.ipsixBackRow.laid w) ∧ sizedMet enc Tryz.prog Tryz.f6 (OpenSpec.ofChange Rows.ipsixBackSpec) false w args) (Rows.ipsixBackSpec.post enc Tryz.prog Tryz.f6 false true false false) := by
  refine wrap_shape (C := Tryz.checked) Rows.ipsixBackRow.laid own started (by kernel_rfl) Tryz.func6
    (ChangeSpec.witness_shaped (enc := enc) (C := Tryz.checked) (os := os) (X := fun w _ => laidMetH Tryz.prog Rows.ipsixBackRow.laid w) false (laidWorld os) #[.agg #[.int .u16 0, .int .u16 0, .int .u16 0, .int .u16 0, .int .u16 0, .int .u16 0, .int .u16 0, .int .u16 0], .agg #[.int .u16 0, .int .u16 0, .int .u16 0, .int .u16 0, .int .u16 0, .int .u16 0, .int .u16 0, .int .u16 0]] 8 rfl (World.shaped_of_RefB (by kernel_rfl) (by kernel_rfl)) (by kernel_rfl) (by kernel_rfl) (by kernel_rfl) (laidWorld_met os _)) ?_
  intro W base args ds gs before hval0 hW hsz0 hlaid hshape
  have hsz : (DataW.weightsEach Tryz.prog (Tryz.f6.params.toList ++ Rows.ipsixBackSpec.plain.varTypes Tryz.prog) (ds ++ gs)).all (· ≤ reachBytes) = true := hsz0
  have hval : ∀ (j : Nat) t v, Tryz.f6.params[j]? = some t → args[j]? = some v → Value.okWide Tryz.prog W .any base t v := hval0
  have hW' := hW
  obtain ⟨p, q, hA0, hV, hpq, hfz, hnd⟩ := hW
  have hA : DataW.TrodAll enc Tryz.prog W 0 (fun _ => true) true Tryz.f6.params.toList args.toList ds p := hA0
  rw [Tryz.params6] at hA hval hsz
  obtain ⟨v0, vs0, d0, ds0, p0, q0, hargs, rfl, hp0, h0, r0⟩ := trodAll_cons hA
  obtain ⟨v1, vs1, d1, ds1, p1, q1, rfl, rfl, rfl, h1, r1⟩ := trodAll_cons r0
  obtain ⟨rfl, rfl, rfl⟩ := trodAll_nil r1
  obtain rfl : args = #[v0, v1] := by cases args; simp_all
  obtain ⟨rfl, rfl⟩ := trodVars_none hV
  obtain ⟨a, rfl, ha8, ha⟩ := open_adr (hval 0 _ v0 rfl rfl) h0
  obtain ⟨b, rfl, hb8, hb⟩ := open_adr (hval 1 _ v1 rfl rfl) h1
  refine (back_calls a b ha8 hb8 ha hb W (fw_of hlaid hshape)).mono fun e W' ⟨he, hg⟩ => ?_
  subst he
  exact ⟨_, rfl, law_post (by kernel_rfl) hW' rfl rfl Tryz.underlying4 rfl hg⟩

theorem over : Rows.ipsixBackRow.holds Tryz.pinned (OpenSpec.ofChange Rows.ipsixBackSpec) :=
  OpenClaim.holds_of_wide 6 Tryz.f6 rfl rfl rfl rfl rfl rfl rfl ⟨rfl, rfl, rfl, rfl, rfl⟩ rfl rfl rfl rfl rfl (by kernel_rfl) Tryz.func6 (by kernel_rfl)
    (of_decide_eq_true (by kernel_rfl)) (by unfold Func.isWrapper; first | (rw [if_pos (by decide +kernel)]; kernel_rfl) | (rw [if_neg (by decide +kernel)]; exact ⟨rfl, rfl⟩))
    (fun os started H enc _ => lifted os started H enc)

theorem proved : Rows.IpsixBackCardSaid :=
  Claim7.holds_tied_plain_at .later [] [.data, .data, .data, .data, .sentinel, .sentinel, .pinned] true (true, "420ea1feeeb254cb7f99c57e59a2ad7ea9b39cd1509b8df5d94c69e37abfd89b") true
    over (fun _ h => by cases h) (by kernel_rfl) (fun _ h => by cases h) ipsixBack_row_tie rfl ⟨rfl, rfl⟩ (by kernel_rfl) rfl
    (fun f fn hf hfn => by
      obtain rfl : f = 6 := Option.some.inj ((show Tryz.prog.funcNamed "gatepost/gatepostlaw08.IpsixBack" = some 6 by kernel_rfl).symm.trans hf) |>.symm
      obtain rfl : fn = Tryz.f6 := (Option.some.inj (Tryz.func6.symm.trans hfn)).symm
      exact ⟨by kernel_rfl, fun j t ht => by
        rw [Tryz.params6] at ht
        have hall : ∀ t ∈ (#[23, 23] : Array TypeId).toList, Tryz.prog.wantsStandIn t = false := by
          intro t ht
          simp only [List.mem_cons, List.not_mem_nil, or_false] at ht
          rcases ht with rfl | rfl
          · kernel_rfl
          · kernel_rfl
        exact hall t (by have := Array.mem_of_getElem? ht; simpa using this)⟩)
    (by kernel_rfl)
#print axioms proved
end Go.Proofs.YtodpjdeffhbkpaaGreatDoor.ipsixBack
