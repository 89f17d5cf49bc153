/-
  DERIVED. GIVEN WITH THE SEED: THE CARDS: each row of YtakbjmmelfcjeaaDoorRows.lean that lists a variable, with what it lists TIED to the program's text (the seventh form; the later family's looks); each row that meets fmt, with fmt's text TOLD by the authors' own Lean function (tested against real Go, not proved from fmt's source: count such statements apart). THE CARD IS WHAT COUNTS. Prove the row's statement (the work); the ties are given (YtakbjmmelfcjeaaDoorTie.lean); close each card by the builder's one call (the guide's Derived/Test/ToyasCard.lean, 'card_holds'). Laid BY PROGRAM, IN A SANDBOX (cutbox-door.mjs). By AI agents, Wed Nov 11 2026. No macro, syntax, notation, axiom, sorry.
-/
import Derived.Test.YtakbjmmelfcjeaaDoorRows
import GoSem.ClaimSeven
namespace Go.Proofs.YtakbjmmelfcjeaaDoor
namespace Rows

/-- THE TIED CARD OF 'gatepostlaw10.SchemePorts'. -/
def schemePortsCard : Claim7 := { stood := { row := schemePortsRow, standIns := [], harness := (true, "a4edcc2d798a41bc24c4d77536f03febaf5430b75c69981f418f13ab19e9740b"), looks := true }, kinds := [], alts := [], laidByText := true, laidKinds := [.handle], laidTests := true, laidLooks := .later }
def SchemePortsCardSaid : Prop := Claim7.holds Tryd.pinned (.plain (OpenSpec.ofChange schemePortsSpec)) schemePortsCard

/-- THE SECOND FORM's CARD OF 'gatepostlaw10.SchemePorts'. -/
def schemePortsUptoCard : Claim7 := { stood := { row := schemePortsUptoRow, standIns := [], harness := (true, "a4edcc2d798a41bc24c4d77536f03febaf5430b75c69981f418f13ab19e9740b"), looks := true }, kinds := [], alts := [], laidByText := true, laidKinds := [.handle], laidTests := true, laidLooks := .later }
def SchemePortsUptoCardSaid : Prop := Claim7.holds Tryd.pinned (.plain (OpenSpec.upto schemePortsSpec)) schemePortsUptoCard
end Rows
end Go.Proofs.YtakbjmmelfcjeaaDoor
