/-
  DERIVED. GIVEN WITH THE SEED: THE CARDS: each row of YtjnghgalniapjaaDoorRows.lean that lists a variable, with what it lists TIED to the program's text (the seventh form; the later family's looks); each row that meets fmt, with fmt's text TOLD by the authors' own Lean function (tested against real Go, not proved from fmt's source: count such statements apart). THE CARD IS WHAT COUNTS. Prove the row's statement (the work); the ties are given (YtjnghgalniapjaaDoorTie.lean); close each card by the builder's one call (the guide's Derived/Test/ToyasCard.lean, 'card_holds'). Laid BY PROGRAM, IN A SANDBOX (cutbox-door.mjs). By AI agents, Wed Nov 11 2026. No macro, syntax, notation, axiom, sorry.
-/
import Derived.Test.YtjnghgalniapjaaDoorRows
import GoSem.ClaimSeven
namespace Go.Proofs.YtjnghgalniapjaaDoor
namespace Rows

/-- THE TIED CARD OF 'gatepostlaw21.ClockNew'. -/
def clockNewCard : Claim7 := { stood := { row := clockNewRow, standIns := [], harness := (true, "25383e362b12060d96e988d247c1247c40ee48453a83919b66e72af1bd1c6930"), looks := true }, kinds := [], alts := [], laidByText := true, laidKinds := [.handle], laidTests := true, laidLooks := .later }
def ClockNewCardSaid : Prop := Claim7.holds Tryd.pinned (.plain (OpenSpec.ofChange clockNewSpec)) clockNewCard

/-- THE SECOND FORM's CARD OF 'gatepostlaw21.ClockNew'. -/
def clockNewUptoCard : Claim7 := { stood := { row := clockNewUptoRow, standIns := [], harness := (true, "25383e362b12060d96e988d247c1247c40ee48453a83919b66e72af1bd1c6930"), looks := true }, kinds := [], alts := [], laidByText := true, laidKinds := [.handle], laidTests := true, laidLooks := .later }
def ClockNewUptoCardSaid : Prop := Claim7.holds Tryd.pinned (.plain (OpenSpec.upto clockNewSpec)) clockNewUptoCard
end Rows
end Go.Proofs.YtjnghgalniapjaaDoor
