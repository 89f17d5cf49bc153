/- The law SiteOf: for every list of rules and every two origins the call returns true, and what was there before is as it was: any origin's site, and whether any two have the same one. The card ties the package's variables to the program's text. No condition. -/
import Derived.Test.YtgljkgkmbfhgiaaDoorRow
import Derived.Test.YtgljkgkmbfhgiaaDoorSiteDoor
import Derived.Test.YtgljkgkmbfhgiaaDoorTie
import Derived.Test.YtgljkgkmbfhgiaaDoorCards
import Derived.ChangeSame
import Derived.ChangeVars
import Derived.JoinedOf
import Derived.RowKitTokens
import Derived.LaidLaws
import Derived.LaidHandle
import Derived.Stop.Joined
import Derived.SevenTiedAt
import Derived.SizedLaws
import Derived.Test.YtgljkgkmbfhgiaaDoorSiteOfWalk
import Derived.Test.YtgljkgkmbfhgiaaDoorSiteOpen
import Derived.Test.YtgljkgkmbfhgiaaDoorShape
set_option linter.unusedVariables false
set_option linter.unusedSimpArgs false
namespace Go.Proofs.YtgljkgkmbfhgiaaDoor.siteOf
open Go.ChangeShapes Go.WideShapes Go.ChangeAt Go.RowKit
open Go.ChangeMaps (open_string shut_string)
set_option maxRecDepth 100000 in
theorem lifted (os : Os) (started : os.Started) (H : Type) (enc : TypeId × Value → H) :
    ReturnsInHanded {} Tryd.checked os 9 .any (fun w args => (Rows.siteOfSpec.pre enc Tryd.prog Tryd.f9 [] false w args ∧ laidMetH Tryd.prog Rows.siteOfRow.laid w) ∧ sizedMet enc Tryd.prog Tryd.f9 (OpenSpec.ofChange Rows.siteOfSpec) false w args) (Rows.siteOfSpec.post enc Tryd.prog Tryd.f9 false true false false) := by
  refine wrap_shape (C := Tryd.checked) Rows.siteOfRow.laid own started (by kernel_rfl) Tryd.func9
    (ChangeSpec.witness_shaped (enc := enc) (C := Tryd.checked) (os := os) (X := fun w _ => laidMetH Tryd.prog Rows.siteOfRow.laid w) false (laidWorld os) #[.slice none 0 0, .agg #[.bool false, .string ByteArray.empty, .int .i64 0, .string ByteArray.empty, .int .u32 0, .int .u16 0, .int .u16 0, .int .u16 0, .int .u16 0, .int .u16 0, .int .u16 0, .int .u16 0, .int .u16 0, .int .i64 0], .agg #[.bool false, .string ByteArray.empty, .int .i64 0, .string ByteArray.empty, .int .u32 0, .int .u16 0, .int .u16 0, .int .u16 0, .int .u16 0, .int .u16 0, .int .u16 0, .int .u16 0, .int .u16 0, .int .i64 0]] 8 rfl (World.shaped_of_RefB (by kernel_rfl) (by kernel_rfl)) (by kernel_rfl) (by kernel_rfl) (by kernel_rfl) (laidWorld_met os _)) ?_
  intro W base args ds gs before hval0 hW hsz0 hlaid hshape
  have hsz : (DataW.weightsEach Tryd.prog (Tryd.f9.params.toList ++ Rows.siteOfSpec.plain.varTypes Tryd.prog) (ds ++ gs)).all (· ≤ reachBytes) = true := hsz0
  have hval : ∀ (j : Nat) t v, Tryd.f9.params[j]? = some t → args[j]? = some v → Value.okWide Tryd.prog W .any base t v := hval0
  have hW' := hW
  obtain ⟨p, q, hA0, hV, hpq, hfz, hnd⟩ := hW
  have hA : DataW.TrodAll enc Tryd.prog W 0 (fun _ => true) true Tryd.f9.params.toList args.toList ds p := hA0
  rw [Tryd.params9] at hA hval hsz
  obtain ⟨v0, vs0, d0, ds0, p0, q0, hargs, rfl, hp0, h0, r0⟩ := trodAll_cons hA
  obtain ⟨v1, vs1, d1, ds1, p1, q1, rfl, rfl, rfl, h1, r1⟩ := trodAll_cons r0
  obtain ⟨v2, vs2, d2, ds2, p2, q2, rfl, rfl, rfl, h2, r2⟩ := trodAll_cons r1
  obtain ⟨rfl, rfl, rfl⟩ := trodAll_nil r2
  obtain rfl : args = #[v0, v1, v2] := by cases args; simp_all
  obtain ⟨rfl, rfl⟩ := trodVars_none hV
  obtain ⟨A, c, l, rfl, hc, hm, hr, hok⟩ := open_rulesS (hval 0 _ v0 rfl rfl) h0
  obtain ⟨x, rfl, hx⟩ := open_org (hval 1 _ v1 rfl rfl) h1
  obtain ⟨y, rfl, hy⟩ := open_org (hval 2 _ v2 rfl rfl) h2
  refine (of_law (fw_of hlaid hshape) A c l hr hok hc hm x y hx hy).mono fun e W' ⟨he, hg⟩ => ?_
  subst he
  exact ⟨_, rfl, law_post (by kernel_rfl) hW' rfl rfl Tryd.underlying4 rfl hg⟩

theorem over : Rows.siteOfRow.holds Tryd.pinned (OpenSpec.ofChange Rows.siteOfSpec) :=
  OpenClaim.holds_of_wide 9 Tryd.f9 rfl rfl rfl rfl rfl rfl rfl ⟨rfl, rfl, rfl, rfl, rfl⟩ rfl rfl rfl rfl rfl (by kernel_rfl) Tryd.func9 (by kernel_rfl)
    (of_decide_eq_true (by kernel_rfl)) (by unfold Func.isWrapper; first | (rw [if_pos (by decide +kernel)]; kernel_rfl) | (rw [if_neg (by decide +kernel)]; exact ⟨rfl, rfl⟩))
    (fun os started H enc _ => lifted os started H enc)

theorem proved : Rows.SiteOfCardSaid :=
  Claim7.holds_tied_plain_at .later [] [.data, .data, .data, .data, .pinned] true (true, "374b26a3c1110aa0e129b41bbb6d38a3e3141455c42878107cb42342c0a31a4e") false
    over (fun _ h => by cases h) (by kernel_rfl) (fun _ h => by cases h) siteOf_row_tie rfl ⟨rfl, rfl⟩ (by kernel_rfl) rfl
    (fun f fn hf hfn => by
      obtain rfl : f = 9 := Option.some.inj ((show Tryd.prog.funcNamed "gatepost/gatepostlaw17.SiteOf" = some 9 by kernel_rfl).symm.trans hf) |>.symm
      obtain rfl : fn = Tryd.f9 := (Option.some.inj (Tryd.func9.symm.trans hfn)).symm
      exact ⟨by kernel_rfl, fun j t ht => by
        rw [Tryd.params9] at ht
        have hall : ∀ t ∈ (#[40, 49, 49] : Array TypeId).toList, Tryd.prog.wantsStandIn t = false := by
          intro t ht
          simp only [List.mem_cons, List.not_mem_nil, or_false] at ht
          rcases ht with rfl | rfl | rfl
          · kernel_rfl
          · kernel_rfl
          · kernel_rfl
        exact hall t (by have := Array.mem_of_getElem? ht; simpa using this)⟩)
    (by kernel_rfl)
#print axioms proved
end Go.Proofs.YtgljkgkmbfhgiaaDoor.siteOf
