/-
  DERIVED. GIVEN WITH THE SEED: THE CARDS: each row of YtkmmnmicmjohgaaDoorRows.lean that lists a variable, with what it lists TIED to the program's text (the seventh form; the later family's looks); each row that meets fmt, with fmt's text TOLD by the authors' own Lean function (tested against real Go, not proved from fmt's source: count such statements apart). THE CARD IS WHAT COUNTS. Prove the row's statement (the work); the ties are given (YtkmmnmicmjohgaaDoorTie.lean); close each card by the builder's one call (the guide's Derived/Test/ToyasCard.lean, 'card_holds'). Laid BY PROGRAM, IN A SANDBOX (cutbox-door.mjs). By AI agents, Wed Nov 11 2026. No macro, syntax, notation, axiom, sorry.
-/
import Derived.Test.YtkmmnmicmjohgaaDoorRows
import GoSem.ClaimSeven
namespace Go.Proofs.YtkmmnmicmjohgaaDoor
namespace Rows

/-- THE TIED CARD OF 'gatepostlaw19.SlotsActs'. -/
def slotsActsCard : Claim7 := { stood := { row := slotsActsRow, standIns := [], harness := (true, "ea5d1095ca4f948eb5fc0d16ca1035b60dafbce968b0cf484ca41ec9c541a661"), looks := true }, kinds := [], alts := [], laidByText := true, laidKinds := [.handle], laidTests := true, laidLooks := .later }
def SlotsActsCardSaid : Prop := Claim7.holds Tryd.pinned (.plain (OpenSpec.ofChange slotsActsSpec)) slotsActsCard

/-- THE TIED CARD OF 'gatepostlaw19.SlotsNew'. -/
def slotsNewCard : Claim7 := { stood := { row := slotsNewRow, standIns := [], harness := (true, "ea5d1095ca4f948eb5fc0d16ca1035b60dafbce968b0cf484ca41ec9c541a661"), looks := true }, kinds := [], alts := [], laidByText := true, laidKinds := [.handle], laidTests := true, laidLooks := .later }
def SlotsNewCardSaid : Prop := Claim7.holds Tryd.pinned (.plain (OpenSpec.ofChange slotsNewSpec)) slotsNewCard

/-- THE TIED CARD OF 'gatepostlaw19.SlotsCounts'. -/
def slotsCountsCard : Claim7 := { stood := { row := slotsCountsRow, standIns := [], harness := (true, "ea5d1095ca4f948eb5fc0d16ca1035b60dafbce968b0cf484ca41ec9c541a661"), looks := true }, kinds := [], alts := [], laidByText := true, laidKinds := [.handle], laidTests := true, laidLooks := .later }
def SlotsCountsCardSaid : Prop := Claim7.holds Tryd.pinned (.plain (OpenSpec.ofChange slotsCountsSpec)) slotsCountsCard

/-- THE TIED CARD OF 'gatepostlaw19.SlotsStale'. -/
def slotsStaleCard : Claim7 := { stood := { row := slotsStaleRow, standIns := [], harness := (true, "ea5d1095ca4f948eb5fc0d16ca1035b60dafbce968b0cf484ca41ec9c541a661"), looks := true }, kinds := [], alts := [], laidByText := true, laidKinds := [.handle], laidTests := true, laidLooks := .later }
def SlotsStaleCardSaid : Prop := Claim7.holds Tryd.pinned (.plain (OpenSpec.ofChange slotsStaleSpec)) slotsStaleCard

/-- THE SECOND FORM's CARD OF 'gatepostlaw19.SlotsActs'. -/
def slotsActsUptoCard : Claim7 := { stood := { row := slotsActsUptoRow, standIns := [], harness := (true, "ea5d1095ca4f948eb5fc0d16ca1035b60dafbce968b0cf484ca41ec9c541a661"), looks := true }, kinds := [], alts := [], laidByText := true, laidKinds := [.handle], laidTests := true, laidLooks := .later }
def SlotsActsUptoCardSaid : Prop := Claim7.holds Tryd.pinned (.plain (OpenSpec.upto slotsActsSpec)) slotsActsUptoCard

/-- THE SECOND FORM's CARD OF 'gatepostlaw19.SlotsNew'. -/
def slotsNewUptoCard : Claim7 := { stood := { row := slotsNewUptoRow, standIns := [], harness := (true, "ea5d1095ca4f948eb5fc0d16ca1035b60dafbce968b0cf484ca41ec9c541a661"), looks := true }, kinds := [], alts := [], laidByText := true, laidKinds := [.handle], laidTests := true, laidLooks := .later }
def SlotsNewUptoCardSaid : Prop := Claim7.holds Tryd.pinned (.plain (OpenSpec.upto slotsNewSpec)) slotsNewUptoCard

/-- THE SECOND FORM's CARD OF 'gatepostlaw19.SlotsCounts'. -/
def slotsCountsUptoCard : Claim7 := { stood := { row := slotsCountsUptoRow, standIns := [], harness := (true, "ea5d1095ca4f948eb5fc0d16ca1035b60dafbce968b0cf484ca41ec9c541a661"), looks := true }, kinds := [], alts := [], laidByText := true, laidKinds := [.handle], laidTests := true, laidLooks := .later }
def SlotsCountsUptoCardSaid : Prop := Claim7.holds Tryd.pinned (.plain (OpenSpec.upto slotsCountsSpec)) slotsCountsUptoCard

/-- THE SECOND FORM's CARD OF 'gatepostlaw19.SlotsStale'. -/
def slotsStaleUptoCard : Claim7 := { stood := { row := slotsStaleUptoRow, standIns := [], harness := (true, "ea5d1095ca4f948eb5fc0d16ca1035b60dafbce968b0cf484ca41ec9c541a661"), looks := true }, kinds := [], alts := [], laidByText := true, laidKinds := [.handle], laidTests := true, laidLooks := .later }
def SlotsStaleUptoCardSaid : Prop := Claim7.holds Tryd.pinned (.plain (OpenSpec.upto slotsStaleSpec)) slotsStaleUptoCard
end Rows
end Go.Proofs.YtkmmnmicmjohgaaDoor
