/-
  DERIVED. GIVEN WITH THE SEED: THE CARDS: each row of YtnipglclecafiaaDoorRows.lean that lists a variable, with what it lists TIED to the program's text (the seventh form; the later family's looks); each row that meets fmt, with fmt's text TOLD by the authors' own Lean function (tested against real Go, not proved from fmt's source: count such statements apart). THE CARD IS WHAT COUNTS. Prove the row's statement (the work); the ties are given (YtnipglclecafiaaDoorTie.lean); close each card by the builder's one call (the guide's Derived/Test/ToyasCard.lean, 'card_holds'). Laid BY PROGRAM, IN A SANDBOX (cutbox-door.mjs). By AI agents, Wed Nov 11 2026. No macro, syntax, notation, axiom, sorry.
-/
import Derived.Test.YtnipglclecafiaaDoorRows
import GoSem.ClaimSeven
namespace Go.Proofs.YtnipglclecafiaaDoor
namespace Rows

/-- THE TIED CARD OF 'gatepostlaw01.FailTells'. -/
def failTellsCard : Claim7 := { stood := { row := failTellsRow, standIns := [], harness := (true, "dd976434bd9ac44d082c59af78c0cfe2f5c6ea78406831edc79318d56260d6b5"), looks := true }, kinds := [], alts := [], laidByText := true, laidKinds := [.handle], laidTests := true, laidLooks := .later }
def FailTellsCardSaid : Prop := Claim7.holds Tryd.pinned (.plain (OpenSpec.ofChange failTellsSpec)) failTellsCard

/-- THE TIED CARD OF 'gatepostlaw01.FailIs'. -/
def failIsCard : Claim7 := { stood := { row := failIsRow, standIns := [], harness := (true, "dd976434bd9ac44d082c59af78c0cfe2f5c6ea78406831edc79318d56260d6b5"), looks := true }, kinds := [], alts := [], laidByText := true, laidKinds := [.handle], laidTests := true, laidLooks := .later }
def FailIsCardSaid : Prop := Claim7.holds Tryd.pinned (.plain (OpenSpec.ofChange failIsSpec)) failIsCard

/-- THE TIED CARD OF 'gatepostlaw01.FailAs'. -/
def failAsCard : Claim7 := { stood := { row := failAsRow, standIns := [], harness := (true, "dd976434bd9ac44d082c59af78c0cfe2f5c6ea78406831edc79318d56260d6b5"), looks := true }, kinds := [], alts := [], laidByText := true, laidKinds := [.handle], laidTests := true, laidLooks := .later }
def FailAsCardSaid : Prop := Claim7.holds Tryd.pinned (.plain (OpenSpec.ofChange failAsSpec)) failAsCard

/-- THE TIED CARD OF 'gatepostlaw01.FailNone'. -/
def failNoneCard : Claim7 := { stood := { row := failNoneRow, standIns := [], harness := (true, "dd976434bd9ac44d082c59af78c0cfe2f5c6ea78406831edc79318d56260d6b5"), looks := true }, kinds := [], alts := [], laidByText := true, laidKinds := [.handle], laidTests := true, laidLooks := .later }
def FailNoneCardSaid : Prop := Claim7.holds Tryd.pinned (.plain (OpenSpec.ofChange failNoneSpec)) failNoneCard

/-- THE TIED CARD OF 'gatepostlaw01.FailApart'. -/
def failApartCard : Claim7 := { stood := { row := failApartRow, standIns := [], harness := (true, "dd976434bd9ac44d082c59af78c0cfe2f5c6ea78406831edc79318d56260d6b5"), looks := true }, kinds := [], alts := [], laidByText := true, laidKinds := [.handle], laidTests := true, laidLooks := .later }
def FailApartCardSaid : Prop := Claim7.holds Tryd.pinned (.plain (OpenSpec.ofChange failApartSpec)) failApartCard

/-- THE SECOND FORM's CARD OF 'gatepostlaw01.FailTells'. -/
def failTellsUptoCard : Claim7 := { stood := { row := failTellsUptoRow, standIns := [], harness := (true, "dd976434bd9ac44d082c59af78c0cfe2f5c6ea78406831edc79318d56260d6b5"), looks := true }, kinds := [], alts := [], laidByText := true, laidKinds := [.handle], laidTests := true, laidLooks := .later }
def FailTellsUptoCardSaid : Prop := Claim7.holds Tryd.pinned (.plain (OpenSpec.upto failTellsSpec)) failTellsUptoCard

/-- THE SECOND FORM's CARD OF 'gatepostlaw01.FailIs'. -/
def failIsUptoCard : Claim7 := { stood := { row := failIsUptoRow, standIns := [], harness := (true, "dd976434bd9ac44d082c59af78c0cfe2f5c6ea78406831edc79318d56260d6b5"), looks := true }, kinds := [], alts := [], laidByText := true, laidKinds := [.handle], laidTests := true, laidLooks := .later }
def FailIsUptoCardSaid : Prop := Claim7.holds Tryd.pinned (.plain (OpenSpec.upto failIsSpec)) failIsUptoCard

/-- THE SECOND FORM's CARD OF 'gatepostlaw01.FailAs'. -/
def failAsUptoCard : Claim7 := { stood := { row := failAsUptoRow, standIns := [], harness := (true, "dd976434bd9ac44d082c59af78c0cfe2f5c6ea78406831edc79318d56260d6b5"), looks := true }, kinds := [], alts := [], laidByText := true, laidKinds := [.handle], laidTests := true, laidLooks := .later }
def FailAsUptoCardSaid : Prop := Claim7.holds Tryd.pinned (.plain (OpenSpec.upto failAsSpec)) failAsUptoCard

/-- THE SECOND FORM's CARD OF 'gatepostlaw01.FailNone'. -/
def failNoneUptoCard : Claim7 := { stood := { row := failNoneUptoRow, standIns := [], harness := (true, "dd976434bd9ac44d082c59af78c0cfe2f5c6ea78406831edc79318d56260d6b5"), looks := true }, kinds := [], alts := [], laidByText := true, laidKinds := [.handle], laidTests := true, laidLooks := .later }
def FailNoneUptoCardSaid : Prop := Claim7.holds Tryd.pinned (.plain (OpenSpec.upto failNoneSpec)) failNoneUptoCard

/-- THE SECOND FORM's CARD OF 'gatepostlaw01.FailApart'. -/
def failApartUptoCard : Claim7 := { stood := { row := failApartUptoRow, standIns := [], harness := (true, "dd976434bd9ac44d082c59af78c0cfe2f5c6ea78406831edc79318d56260d6b5"), looks := true }, kinds := [], alts := [], laidByText := true, laidKinds := [.handle], laidTests := true, laidLooks := .later }
def FailApartUptoCardSaid : Prop := Claim7.holds Tryd.pinned (.plain (OpenSpec.upto failApartSpec)) failApartUptoCard
end Rows
end Go.Proofs.YtnipglclecafiaaDoor
