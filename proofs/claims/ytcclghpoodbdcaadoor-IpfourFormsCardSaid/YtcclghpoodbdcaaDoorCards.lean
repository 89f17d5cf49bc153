/-
  DERIVED. GIVEN WITH THE SEED: THE CARDS: each row of YtcclghpoodbdcaaDoorRows.lean that lists a variable, with what it lists TIED to the program's text (the seventh form; the later family's looks); each row that meets fmt, with fmt's text TOLD by the authors' own Lean function (tested against real Go, not proved from fmt's source: count such statements apart). THE CARD IS WHAT COUNTS. Prove the row's statement (the work); the ties are given (YtcclghpoodbdcaaDoorTie.lean); close each card by the builder's one call (the guide's Derived/Test/ToyasCard.lean, 'card_holds'). Laid BY PROGRAM, IN A SANDBOX (cutbox-door.mjs). By AI agents, Wed Nov 11 2026. No macro, syntax, notation, axiom, sorry.
-/
import Derived.Test.YtcclghpoodbdcaaDoorRows
import GoSem.ClaimSeven
namespace Go.Proofs.YtcclghpoodbdcaaDoor
namespace Rows

/-- THE TIED CARD OF 'gatepostlaw07.IpfourTexts'. -/
def ipfourTextsCard : Claim7 := { stood := { row := ipfourTextsRow, standIns := [], harness := (true, "ced8cd3b88c55e0ef68c5a8818a3d51f8051e602d9faccd386f9a988b9f6a042"), looks := true }, kinds := [], alts := [], laidByText := true, laidKinds := [.data, .data, .data, .data, .pinned], laidTests := true, laidLooks := .later }
def IpfourTextsCardSaid : Prop := Claim7.holds Tryd.pinned (.plain (OpenSpec.ofChange ipfourTextsSpec)) ipfourTextsCard

/-- THE TIED CARD OF 'gatepostlaw07.IpfourBack'. -/
def ipfourBackCard : Claim7 := { stood := { row := ipfourBackRow, standIns := [], harness := (true, "ced8cd3b88c55e0ef68c5a8818a3d51f8051e602d9faccd386f9a988b9f6a042"), looks := true }, kinds := [], alts := [], laidByText := true, laidKinds := [.data, .data, .data, .data, .pinned], laidTests := true, laidLooks := .later }
def IpfourBackCardSaid : Prop := Claim7.holds Tryd.pinned (.plain (OpenSpec.ofChange ipfourBackSpec)) ipfourBackCard

/-- THE TIED CARD OF 'gatepostlaw07.IpfourEnds'. -/
def ipfourEndsCard : Claim7 := { stood := { row := ipfourEndsRow, standIns := [], harness := (true, "ced8cd3b88c55e0ef68c5a8818a3d51f8051e602d9faccd386f9a988b9f6a042"), looks := true }, kinds := [], alts := [], laidByText := true, laidKinds := [.data, .data, .data, .data, .pinned], laidTests := true, laidLooks := .later }
def IpfourEndsCardSaid : Prop := Claim7.holds Tryd.pinned (.plain (OpenSpec.ofChange ipfourEndsSpec)) ipfourEndsCard

/-- THE TIED CARD OF 'gatepostlaw07.IpfourForms'. -/
def ipfourFormsCard : Claim7 := { stood := { row := ipfourFormsRow, standIns := [], harness := (true, "ced8cd3b88c55e0ef68c5a8818a3d51f8051e602d9faccd386f9a988b9f6a042"), looks := true }, kinds := [], alts := [], laidByText := true, laidKinds := [.data, .data, .data, .data, .pinned], laidTests := true, laidLooks := .later }
def IpfourFormsCardSaid : Prop := Claim7.holds Tryd.pinned (.plain (OpenSpec.ofChange ipfourFormsSpec)) ipfourFormsCard

/-- THE SECOND FORM's CARD OF 'gatepostlaw07.IpfourTexts'. -/
def ipfourTextsUptoCard : Claim7 := { stood := { row := ipfourTextsUptoRow, standIns := [], harness := (true, "ced8cd3b88c55e0ef68c5a8818a3d51f8051e602d9faccd386f9a988b9f6a042"), looks := true }, kinds := [], alts := [], laidByText := true, laidKinds := [.data, .data, .data, .data, .pinned], laidTests := true, laidLooks := .later }
def IpfourTextsUptoCardSaid : Prop := Claim7.holds Tryd.pinned (.plain (OpenSpec.upto ipfourTextsSpec)) ipfourTextsUptoCard

/-- THE SECOND FORM's CARD OF 'gatepostlaw07.IpfourBack'. -/
def ipfourBackUptoCard : Claim7 := { stood := { row := ipfourBackUptoRow, standIns := [], harness := (true, "ced8cd3b88c55e0ef68c5a8818a3d51f8051e602d9faccd386f9a988b9f6a042"), looks := true }, kinds := [], alts := [], laidByText := true, laidKinds := [.data, .data, .data, .data, .pinned], laidTests := true, laidLooks := .later }
def IpfourBackUptoCardSaid : Prop := Claim7.holds Tryd.pinned (.plain (OpenSpec.upto ipfourBackSpec)) ipfourBackUptoCard

/-- THE SECOND FORM's CARD OF 'gatepostlaw07.IpfourEnds'. -/
def ipfourEndsUptoCard : Claim7 := { stood := { row := ipfourEndsUptoRow, standIns := [], harness := (true, "ced8cd3b88c55e0ef68c5a8818a3d51f8051e602d9faccd386f9a988b9f6a042"), looks := true }, kinds := [], alts := [], laidByText := true, laidKinds := [.data, .data, .data, .data, .pinned], laidTests := true, laidLooks := .later }
def IpfourEndsUptoCardSaid : Prop := Claim7.holds Tryd.pinned (.plain (OpenSpec.upto ipfourEndsSpec)) ipfourEndsUptoCard

/-- THE SECOND FORM's CARD OF 'gatepostlaw07.IpfourForms'. -/
def ipfourFormsUptoCard : Claim7 := { stood := { row := ipfourFormsUptoRow, standIns := [], harness := (true, "ced8cd3b88c55e0ef68c5a8818a3d51f8051e602d9faccd386f9a988b9f6a042"), looks := true }, kinds := [], alts := [], laidByText := true, laidKinds := [.data, .data, .data, .data, .pinned], laidTests := true, laidLooks := .later }
def IpfourFormsUptoCardSaid : Prop := Claim7.holds Tryd.pinned (.plain (OpenSpec.upto ipfourFormsSpec)) ipfourFormsUptoCard
end Rows
end Go.Proofs.YtcclghpoodbdcaaDoor
