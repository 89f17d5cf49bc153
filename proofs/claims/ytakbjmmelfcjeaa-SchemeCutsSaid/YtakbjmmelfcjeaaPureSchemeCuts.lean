/- The law SchemeCuts: for every text the call returns true, and what was there before is as it was: the text is cut behind its scheme, or not, as the reference tells. No condition. -/
import Derived.Test.YtakbjmmelfcjeaaPureSchemeCut
import Derived.Test.YtakbjmmelfcjeaaPSchemex8
namespace Go.Proofs.Ytakbjmmelfcjeaa.Pure
open Go.RowKit Go.Proofs.YtakbjmmelfcjeaaW.PrintWords Go.Proofs.Ytakbjmmelfcjeaa.PScheme Go.Proofs.Ytakbjmmelfcjeaa Go.Proofs.Ytakbjmmelfcjeaa.Plain
theorem SchemeCuts : gatepostlaw10_SchemeCuts.Pure := by
  intro s hs
  apply Ev.rounds (r := true)
  unfold gatepostlaw10_SchemeCuts.f
  simp only [gatepostlaw10_awake.f, Option.bind_some, if_true]
  refine Ev.ite (fun _ => Ev.now _) (fun h => ?_)
  simp only [cut_is s hs, Option.bind_some]
  refine Ev.bind (refcut_is s hs) ?_
  simp only [beq_self_eq_true, if_true]
  exact Ev.now _
end Go.Proofs.Ytakbjmmelfcjeaa.Pure
