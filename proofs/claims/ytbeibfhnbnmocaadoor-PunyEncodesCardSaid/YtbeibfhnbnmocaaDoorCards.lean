/-
  DERIVED. GIVEN WITH THE SEED: THE CARDS: each row of YtbeibfhnbnmocaaDoorRows.lean that lists a variable, with what it lists TIED to the program's text (the seventh form; the later family's looks); each row that meets fmt, with fmt's text TOLD by the authors' own Lean function (tested against real Go, not proved from fmt's source: count such statements apart). THE CARD IS WHAT COUNTS. Prove the row's statement (the work); the ties are given (YtbeibfhnbnmocaaDoorTie.lean); close each card by the builder's one call (the guide's Derived/Test/ToyasCard.lean, 'card_holds'). Laid BY PROGRAM, IN A SANDBOX (cutbox-door.mjs). By AI agents, Wed Nov 11 2026. No macro, syntax, notation, axiom, sorry.
-/
import Derived.Test.YtbeibfhnbnmocaaDoorRows
import GoSem.ClaimSeven
namespace Go.Proofs.YtbeibfhnbnmocaaDoor
namespace Rows

/-- THE TIED CARD OF 'gatepostlaw04.PunyEncodes'. -/
def punyEncodesCard : Claim7 := { stood := { row := punyEncodesRow, standIns := [], harness := (true, "0961ae4c9e3b96de59116dd66278ca82ee0ffa7690f89af3fc5ae6c056b99de8"), looks := true }, kinds := [], alts := [], laidByText := true, laidKinds := [.handle], laidTests := true, laidLooks := .later }
def PunyEncodesCardSaid : Prop := Claim7.holds Tryd.pinned (.plain (OpenSpec.ofChange punyEncodesSpec)) punyEncodesCard

/-- THE TIED CARD OF 'gatepostlaw04.PunyDecodes'. -/
def punyDecodesCard : Claim7 := { stood := { row := punyDecodesRow, standIns := [], harness := (true, "0961ae4c9e3b96de59116dd66278ca82ee0ffa7690f89af3fc5ae6c056b99de8"), looks := true }, kinds := [], alts := [], laidByText := true, laidKinds := [.handle], laidTests := true, laidLooks := .later }
def PunyDecodesCardSaid : Prop := Claim7.holds Tryd.pinned (.plain (OpenSpec.ofChange punyDecodesSpec)) punyDecodesCard

/-- THE SECOND FORM's CARD OF 'gatepostlaw04.PunyEncodes'. -/
def punyEncodesUptoCard : Claim7 := { stood := { row := punyEncodesUptoRow, standIns := [], harness := (true, "0961ae4c9e3b96de59116dd66278ca82ee0ffa7690f89af3fc5ae6c056b99de8"), looks := true }, kinds := [], alts := [], laidByText := true, laidKinds := [.handle], laidTests := true, laidLooks := .later }
def PunyEncodesUptoCardSaid : Prop := Claim7.holds Tryd.pinned (.plain (OpenSpec.upto punyEncodesSpec)) punyEncodesUptoCard

/-- THE SECOND FORM's CARD OF 'gatepostlaw04.PunyDecodes'. -/
def punyDecodesUptoCard : Claim7 := { stood := { row := punyDecodesUptoRow, standIns := [], harness := (true, "0961ae4c9e3b96de59116dd66278ca82ee0ffa7690f89af3fc5ae6c056b99de8"), looks := true }, kinds := [], alts := [], laidByText := true, laidKinds := [.handle], laidTests := true, laidLooks := .later }
def PunyDecodesUptoCardSaid : Prop := Claim7.holds Tryd.pinned (.plain (OpenSpec.upto punyDecodesSpec)) punyDecodesUptoCard
end Rows
end Go.Proofs.YtbeibfhnbnmocaaDoor
