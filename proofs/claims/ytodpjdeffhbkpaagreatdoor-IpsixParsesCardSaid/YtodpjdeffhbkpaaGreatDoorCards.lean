/-
  DERIVED. GIVEN WITH THE SEED: THE CARDS: each row of YtodpjdeffhbkpaaGreatDoorRows.lean that lists a variable, with what it lists TIED to the program's text (the seventh form; the later family's looks); each row that meets fmt, with fmt's text TOLD by the authors' own Lean function (tested against real Go, not proved from fmt's source: count such statements apart). THE CARD IS WHAT COUNTS. Prove the row's statement (the work); the ties are given (YtodpjdeffhbkpaaGreatDoorTie.lean); close each card by the builder's one call (the guide's Derived/Test/ToyasCard.lean, 'card_holds'). Laid BY PROGRAM, IN A SANDBOX (cutbox-door.mjs). By AI agents, Wed Nov 11 2026. No macro, syntax, notation, axiom, sorry.
-/
import Derived.Test.YtodpjdeffhbkpaaGreatDoorRows
import GoSem.ClaimSeven
namespace Go.Proofs.YtodpjdeffhbkpaaGreatDoor
namespace Rows

/-- THE TIED CARD OF 'gatepostlaw08.IpsixQuads'. -/
def ipsixQuadsCard : Claim7 := { stood := { row := ipsixQuadsRow, standIns := [], harness := (true, "420ea1feeeb254cb7f99c57e59a2ad7ea9b39cd1509b8df5d94c69e37abfd89b"), looks := true }, kinds := [], alts := [], laidByText := true, laidKinds := [.data, .data, .data, .data, .sentinel, .sentinel, .pinned], laidTests := true, laidLooks := .later }
def IpsixQuadsCardSaid : Prop := Claim7.holds Tryz.pinned (.plain (OpenSpec.ofChange ipsixQuadsSpec)) ipsixQuadsCard

/-- THE TIED CARD OF 'gatepostlaw08.IpsixParses'. -/
def ipsixParsesCard : Claim7 := { stood := { row := ipsixParsesRow, standIns := [], harness := (true, "420ea1feeeb254cb7f99c57e59a2ad7ea9b39cd1509b8df5d94c69e37abfd89b"), looks := true }, kinds := [], alts := [], laidByText := true, laidKinds := [.data, .data, .data, .data, .handle, .sentinel, .sentinel, .pinned], laidTests := true, laidLooks := .later }
def IpsixParsesCardSaid : Prop := Claim7.holds Tryz.pinned (.plain (OpenSpec.ofChange ipsixParsesSpec)) ipsixParsesCard

/-- THE TIED CARD OF 'gatepostlaw08.IpsixTexts'. -/
def ipsixTextsCard : Claim7 := { stood := { row := ipsixTextsRow, standIns := [], harness := (true, "420ea1feeeb254cb7f99c57e59a2ad7ea9b39cd1509b8df5d94c69e37abfd89b"), looks := true }, kinds := [], alts := [], laidByText := true, laidKinds := [.data, .data, .data, .data, .sentinel, .sentinel, .pinned], laidTests := true, laidLooks := .later }
def IpsixTextsCardSaid : Prop := Claim7.holds Tryz.pinned (.plain (OpenSpec.ofChange ipsixTextsSpec)) ipsixTextsCard

/-- THE TIED CARD OF 'gatepostlaw08.IpsixBack'. -/
def ipsixBackCard : Claim7 := { stood := { row := ipsixBackRow, standIns := [], harness := (true, "420ea1feeeb254cb7f99c57e59a2ad7ea9b39cd1509b8df5d94c69e37abfd89b"), looks := true }, kinds := [], alts := [], laidByText := true, laidKinds := [.data, .data, .data, .data, .sentinel, .sentinel, .pinned], laidTests := true, laidLooks := .later }
def IpsixBackCardSaid : Prop := Claim7.holds Tryz.pinned (.plain (OpenSpec.ofChange ipsixBackSpec)) ipsixBackCard

/-- THE TIED CARD OF 'gatepostlaw08.IpsixOnce'. -/
def ipsixOnceCard : Claim7 := { stood := { row := ipsixOnceRow, standIns := [], harness := (true, "420ea1feeeb254cb7f99c57e59a2ad7ea9b39cd1509b8df5d94c69e37abfd89b"), looks := true }, kinds := [], alts := [], laidByText := true, laidKinds := [.data, .data, .data, .data, .sentinel, .sentinel, .pinned], laidTests := true, laidLooks := .later }
def IpsixOnceCardSaid : Prop := Claim7.holds Tryz.pinned (.plain (OpenSpec.ofChange ipsixOnceSpec)) ipsixOnceCard

/-- THE SECOND FORM's CARD OF 'gatepostlaw08.IpsixQuads'. -/
def ipsixQuadsUptoCard : Claim7 := { stood := { row := ipsixQuadsUptoRow, standIns := [], harness := (true, "420ea1feeeb254cb7f99c57e59a2ad7ea9b39cd1509b8df5d94c69e37abfd89b"), looks := true }, kinds := [], alts := [], laidByText := true, laidKinds := [.data, .data, .data, .data, .sentinel, .sentinel, .pinned], laidTests := true, laidLooks := .later }
def IpsixQuadsUptoCardSaid : Prop := Claim7.holds Tryz.pinned (.plain (OpenSpec.upto ipsixQuadsSpec)) ipsixQuadsUptoCard

/-- THE SECOND FORM's CARD OF 'gatepostlaw08.IpsixParses'. -/
def ipsixParsesUptoCard : Claim7 := { stood := { row := ipsixParsesUptoRow, standIns := [], harness := (true, "420ea1feeeb254cb7f99c57e59a2ad7ea9b39cd1509b8df5d94c69e37abfd89b"), looks := true }, kinds := [], alts := [], laidByText := true, laidKinds := [.data, .data, .data, .data, .handle, .sentinel, .sentinel, .pinned], laidTests := true, laidLooks := .later }
def IpsixParsesUptoCardSaid : Prop := Claim7.holds Tryz.pinned (.plain (OpenSpec.upto ipsixParsesSpec)) ipsixParsesUptoCard

/-- THE SECOND FORM's CARD OF 'gatepostlaw08.IpsixTexts'. -/
def ipsixTextsUptoCard : Claim7 := { stood := { row := ipsixTextsUptoRow, standIns := [], harness := (true, "420ea1feeeb254cb7f99c57e59a2ad7ea9b39cd1509b8df5d94c69e37abfd89b"), looks := true }, kinds := [], alts := [], laidByText := true, laidKinds := [.data, .data, .data, .data, .sentinel, .sentinel, .pinned], laidTests := true, laidLooks := .later }
def IpsixTextsUptoCardSaid : Prop := Claim7.holds Tryz.pinned (.plain (OpenSpec.upto ipsixTextsSpec)) ipsixTextsUptoCard

/-- THE SECOND FORM's CARD OF 'gatepostlaw08.IpsixBack'. -/
def ipsixBackUptoCard : Claim7 := { stood := { row := ipsixBackUptoRow, standIns := [], harness := (true, "420ea1feeeb254cb7f99c57e59a2ad7ea9b39cd1509b8df5d94c69e37abfd89b"), looks := true }, kinds := [], alts := [], laidByText := true, laidKinds := [.data, .data, .data, .data, .sentinel, .sentinel, .pinned], laidTests := true, laidLooks := .later }
def IpsixBackUptoCardSaid : Prop := Claim7.holds Tryz.pinned (.plain (OpenSpec.upto ipsixBackSpec)) ipsixBackUptoCard

/-- THE SECOND FORM's CARD OF 'gatepostlaw08.IpsixOnce'. -/
def ipsixOnceUptoCard : Claim7 := { stood := { row := ipsixOnceUptoRow, standIns := [], harness := (true, "420ea1feeeb254cb7f99c57e59a2ad7ea9b39cd1509b8df5d94c69e37abfd89b"), looks := true }, kinds := [], alts := [], laidByText := true, laidKinds := [.data, .data, .data, .data, .sentinel, .sentinel, .pinned], laidTests := true, laidLooks := .later }
def IpsixOnceUptoCardSaid : Prop := Claim7.holds Tryz.pinned (.plain (OpenSpec.upto ipsixOnceSpec)) ipsixOnceUptoCard
end Rows
end Go.Proofs.YtodpjdeffhbkpaaGreatDoor
