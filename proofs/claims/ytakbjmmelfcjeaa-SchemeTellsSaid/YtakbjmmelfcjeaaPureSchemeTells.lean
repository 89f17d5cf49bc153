/- The law SchemeTells: for every text the call returns true, and what was there before is as it was: whether the text is special, may be a scheme, and its port, are as the reference tells. No condition. -/
import Derived.Test.YtakbjmmelfcjeaaPureScheme
import Derived.Test.YtakbjmmelfcjeaaPSchemex4
namespace Go.Proofs.Ytakbjmmelfcjeaa.Pure
open Go.RowKit Go.Proofs.YtakbjmmelfcjeaaW.PrintWords Go.Proofs.Ytakbjmmelfcjeaa.PScheme Go.Proofs.Ytakbjmmelfcjeaa Go.Proofs.Ytakbjmmelfcjeaa.Plain
theorem SchemeTells : gatepostlaw10_SchemeTells.Pure := by
  intro s hs
  apply Ev.rounds (r := true)
  unfold gatepostlaw10_SchemeTells.f
  simp only [gatepostlaw10_awake.f, Option.bind_some, if_true]
  refine Ev.ite (fun _ => Ev.now _) (fun h => ?_)
  obtain ⟨b, h1, h2⟩ := special_ref s
  obtain ⟨n, h3, h4⟩ := default_ref s
  have h5 : scheme_May.f s = some (mayOf s) := by unfold scheme_May.f; rw [if_pos hs]
  simp only [h1, h2, h3, h5, Option.bind_some, beq_self_eq_true, if_true]
  refine Ev.bind h4 ?_
  simp only [if_true]
  refine Ev.bind (may_ref s hs) ?_
  simp only [beq_self_eq_true]
  exact Ev.now _
end Go.Proofs.Ytakbjmmelfcjeaa.Pure
