/-
  DERIVED. GIVEN WITH THE SEED: THE CARDS: each row of YtkeegffhfmhgfaaDoorRows.lean that lists a variable, with what it lists TIED to the program's text (the seventh form; the later family's looks); each row that meets fmt, with fmt's text TOLD by the authors' own Lean function (tested against real Go, not proved from fmt's source: count such statements apart). THE CARD IS WHAT COUNTS. Prove the row's statement (the work); the ties are given (YtkeegffhfmhgfaaDoorTie.lean); close each card by the builder's one call (the guide's Derived/Test/ToyasCard.lean, 'card_holds'). Laid BY PROGRAM, IN A SANDBOX (cutbox-door.mjs). By AI agents, Wed Nov 11 2026. No macro, syntax, notation, axiom, sorry.
-/
import Derived.Test.YtkeegffhfmhgfaaDoorRows
import GoSem.ClaimSeven
namespace Go.Proofs.YtkeegffhfmhgfaaDoor
namespace Rows

/-- THE TIED CARD OF 'gatepostlaw18.KeyTells'. -/
def keyTellsCard : Claim7 := { stood := { row := keyTellsRow, standIns := [], harness := (true, "f9569979de3e9863c87aa987583ce9c402f76a635811361a0b9b240015eef461"), looks := true }, kinds := [], alts := [], laidByText := true, laidKinds := [.data, .data, .data, .sentinel, .sentinel], laidTests := true, laidLooks := .later }
def KeyTellsCardSaid : Prop := Claim7.holds Tryd.pinned (.plain (OpenSpec.ofChange keyTellsSpec)) keyTellsCard

/-- THE TIED CARD OF 'gatepostlaw18.KeyBacks'. -/
def keyBacksCard : Claim7 := { stood := { row := keyBacksRow, standIns := [], harness := (true, "f9569979de3e9863c87aa987583ce9c402f76a635811361a0b9b240015eef461"), looks := true }, kinds := [], alts := [], laidByText := true, laidKinds := [.data, .data, .data, .sentinel, .sentinel], laidTests := true, laidLooks := .later }
def KeyBacksCardSaid : Prop := Claim7.holds Tryd.pinned (.plain (OpenSpec.ofChange keyBacksSpec)) keyBacksCard

/-- THE TIED CARD OF 'gatepostlaw18.KeyBack'. -/
def keyBackCard : Claim7 := { stood := { row := keyBackRow, standIns := [], harness := (true, "f9569979de3e9863c87aa987583ce9c402f76a635811361a0b9b240015eef461"), looks := true }, kinds := [], alts := [], laidByText := true, laidKinds := [.data, .data, .data, .sentinel, .sentinel], laidTests := true, laidLooks := .later }
def KeyBackCardSaid : Prop := Claim7.holds Tryd.pinned (.plain (OpenSpec.ofChange keyBackSpec)) keyBackCard

/-- THE TIED CARD OF 'gatepostlaw18.KeyApart'. -/
def keyApartCard : Claim7 := { stood := { row := keyApartRow, standIns := [], harness := (true, "f9569979de3e9863c87aa987583ce9c402f76a635811361a0b9b240015eef461"), looks := true }, kinds := [], alts := [], laidByText := true, laidKinds := [.data, .data, .data, .sentinel, .sentinel], laidTests := true, laidLooks := .later }
def KeyApartCardSaid : Prop := Claim7.holds Tryd.pinned (.plain (OpenSpec.ofChange keyApartSpec)) keyApartCard

/-- THE TIED CARD OF 'gatepostlaw18.KeyStripes'. -/
def keyStripesCard : Claim7 := { stood := { row := keyStripesRow, standIns := [], harness := (true, "f9569979de3e9863c87aa987583ce9c402f76a635811361a0b9b240015eef461"), looks := true }, kinds := [], alts := [], laidByText := true, laidKinds := [.data, .data, .data, .sentinel, .sentinel], laidTests := true, laidLooks := .later }
def KeyStripesCardSaid : Prop := Claim7.holds Tryd.pinned (.plain (OpenSpec.ofChange keyStripesSpec)) keyStripesCard

/-- THE SECOND FORM's CARD OF 'gatepostlaw18.KeyTells'. -/
def keyTellsUptoCard : Claim7 := { stood := { row := keyTellsUptoRow, standIns := [], harness := (true, "f9569979de3e9863c87aa987583ce9c402f76a635811361a0b9b240015eef461"), looks := true }, kinds := [], alts := [], laidByText := true, laidKinds := [.data, .data, .data, .sentinel, .sentinel], laidTests := true, laidLooks := .later }
def KeyTellsUptoCardSaid : Prop := Claim7.holds Tryd.pinned (.plain (OpenSpec.upto keyTellsSpec)) keyTellsUptoCard

/-- THE SECOND FORM's CARD OF 'gatepostlaw18.KeyBacks'. -/
def keyBacksUptoCard : Claim7 := { stood := { row := keyBacksUptoRow, standIns := [], harness := (true, "f9569979de3e9863c87aa987583ce9c402f76a635811361a0b9b240015eef461"), looks := true }, kinds := [], alts := [], laidByText := true, laidKinds := [.data, .data, .data, .sentinel, .sentinel], laidTests := true, laidLooks := .later }
def KeyBacksUptoCardSaid : Prop := Claim7.holds Tryd.pinned (.plain (OpenSpec.upto keyBacksSpec)) keyBacksUptoCard

/-- THE SECOND FORM's CARD OF 'gatepostlaw18.KeyBack'. -/
def keyBackUptoCard : Claim7 := { stood := { row := keyBackUptoRow, standIns := [], harness := (true, "f9569979de3e9863c87aa987583ce9c402f76a635811361a0b9b240015eef461"), looks := true }, kinds := [], alts := [], laidByText := true, laidKinds := [.data, .data, .data, .sentinel, .sentinel], laidTests := true, laidLooks := .later }
def KeyBackUptoCardSaid : Prop := Claim7.holds Tryd.pinned (.plain (OpenSpec.upto keyBackSpec)) keyBackUptoCard

/-- THE SECOND FORM's CARD OF 'gatepostlaw18.KeyApart'. -/
def keyApartUptoCard : Claim7 := { stood := { row := keyApartUptoRow, standIns := [], harness := (true, "f9569979de3e9863c87aa987583ce9c402f76a635811361a0b9b240015eef461"), looks := true }, kinds := [], alts := [], laidByText := true, laidKinds := [.data, .data, .data, .sentinel, .sentinel], laidTests := true, laidLooks := .later }
def KeyApartUptoCardSaid : Prop := Claim7.holds Tryd.pinned (.plain (OpenSpec.upto keyApartSpec)) keyApartUptoCard

/-- THE SECOND FORM's CARD OF 'gatepostlaw18.KeyStripes'. -/
def keyStripesUptoCard : Claim7 := { stood := { row := keyStripesUptoRow, standIns := [], harness := (true, "f9569979de3e9863c87aa987583ce9c402f76a635811361a0b9b240015eef461"), looks := true }, kinds := [], alts := [], laidByText := true, laidKinds := [.data, .data, .data, .sentinel, .sentinel], laidTests := true, laidLooks := .later }
def KeyStripesUptoCardSaid : Prop := Claim7.holds Tryd.pinned (.plain (OpenSpec.upto keyStripesSpec)) keyStripesUptoCard
end Rows
end Go.Proofs.YtkeegffhfmhgfaaDoor
