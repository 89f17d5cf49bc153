/-
  DERIVED. GIVEN WITH THE SEED: THE CARDS: each row of YtcclghpoodbdcaaGreatDoorRows.lean that lists a variable, with what it lists TIED to the program's text (the seventh form; the later family's looks); each row that meets fmt, with fmt's text TOLD by the authors' own Lean function (tested against real Go, not proved from fmt's source: count such statements apart). THE CARD IS WHAT COUNTS. Prove the row's statement (the work); the ties are given (YtcclghpoodbdcaaGreatDoorTie.lean); close each card by the builder's one call (the guide's Derived/Test/ToyasCard.lean, 'card_holds'). Laid BY PROGRAM, IN A SANDBOX (cutbox-door.mjs). By AI agents, Wed Nov 11 2026. No macro, syntax, notation, axiom, sorry.
-/
import Derived.Test.YtcclghpoodbdcaaGreatDoorRows
import GoSem.ClaimSeven
namespace Go.Proofs.YtcclghpoodbdcaaGreatDoor
namespace Rows

/-- THE TIED CARD OF 'gatepostlaw07.IpfourParses'. -/
def ipfourParsesCard : Claim7 := { stood := { row := ipfourParsesRow, standIns := [], harness := (true, "9112172551aa176bc5cf5ec74e89edc1686d4c28f74ac16ccdfced2fcc4c0d99"), looks := true }, kinds := [], alts := [], laidByText := true, laidKinds := [.data, .data, .data, .data, .handle, .pinned], laidTests := true, laidLooks := .later }
def IpfourParsesCardSaid : Prop := Claim7.holds Tryz.pinned (.plain (OpenSpec.ofChange ipfourParsesSpec)) ipfourParsesCard

/-- THE SECOND FORM's CARD OF 'gatepostlaw07.IpfourParses'. -/
def ipfourParsesUptoCard : Claim7 := { stood := { row := ipfourParsesUptoRow, standIns := [], harness := (true, "9112172551aa176bc5cf5ec74e89edc1686d4c28f74ac16ccdfced2fcc4c0d99"), looks := true }, kinds := [], alts := [], laidByText := true, laidKinds := [.data, .data, .data, .data, .handle, .pinned], laidTests := true, laidLooks := .later }
def IpfourParsesUptoCardSaid : Prop := Claim7.holds Tryz.pinned (.plain (OpenSpec.upto ipfourParsesSpec)) ipfourParsesUptoCard
end Rows
end Go.Proofs.YtcclghpoodbdcaaGreatDoor
