/-
  DERIVED. GIVEN WITH THE SEED: THE CARDS: each row of YtgljkgkmbfhgiaaDoorRows.lean that lists a variable, with what it lists TIED to the program's text (the seventh form; the later family's looks); each row that meets fmt, with fmt's text TOLD by the authors' own Lean function (tested against real Go, not proved from fmt's source: count such statements apart). THE CARD IS WHAT COUNTS. Prove the row's statement (the work); the ties are given (YtgljkgkmbfhgiaaDoorTie.lean); close each card by the builder's one call (the guide's Derived/Test/ToyasCard.lean, 'card_holds'). Laid BY PROGRAM, IN A SANDBOX (cutbox-door.mjs). By AI agents, Wed Nov 11 2026. No macro, syntax, notation, axiom, sorry.
-/
import Derived.Test.YtgljkgkmbfhgiaaDoorRows
import GoSem.ClaimSeven
namespace Go.Proofs.YtgljkgkmbfhgiaaDoor
namespace Rows

/-- THE TIED CARD OF 'gatepostlaw12.RecordTexts'. -/
def recordTextsCard : Claim7 := { stood := { row := recordTextsRow, standIns := [], harness := (true, "374b26a3c1110aa0e129b41bbb6d38a3e3141455c42878107cb42342c0a31a4e"), looks := false }, kinds := [], alts := [], laidByText := true, laidKinds := [.data, .data, .data], laidTests := true, laidLooks := .later }
def RecordTextsCardSaid : Prop := Claim7.holds Tryd.pinned (.plain (OpenSpec.ofChange recordTextsSpec)) recordTextsCard

/-- THE TIED CARD OF 'gatepostlaw12.RecordSame'. -/
def recordSameCard : Claim7 := { stood := { row := recordSameRow, standIns := [], harness := (true, "374b26a3c1110aa0e129b41bbb6d38a3e3141455c42878107cb42342c0a31a4e"), looks := false }, kinds := [], alts := [], laidByText := true, laidKinds := [.data, .data, .data], laidTests := true, laidLooks := .later }
def RecordSameCardSaid : Prop := Claim7.holds Tryd.pinned (.plain (OpenSpec.ofChange recordSameSpec)) recordSameCard

/-- THE TIED CARD OF 'gatepostlaw12.RecordOne'. -/
def recordOneCard : Claim7 := { stood := { row := recordOneRow, standIns := [], harness := (true, "374b26a3c1110aa0e129b41bbb6d38a3e3141455c42878107cb42342c0a31a4e"), looks := false }, kinds := [], alts := [], laidByText := true, laidKinds := [.data, .data, .data], laidTests := true, laidLooks := .later }
def RecordOneCardSaid : Prop := Claim7.holds Tryd.pinned (.plain (OpenSpec.ofChange recordOneSpec)) recordOneCard

/-- THE TIED CARD OF 'gatepostlaw12.RecordBare'. -/
def recordBareCard : Claim7 := { stood := { row := recordBareRow, standIns := [], harness := (true, "374b26a3c1110aa0e129b41bbb6d38a3e3141455c42878107cb42342c0a31a4e"), looks := false }, kinds := [], alts := [], laidByText := true, laidKinds := [.data, .data, .data], laidTests := true, laidLooks := .later }
def RecordBareCardSaid : Prop := Claim7.holds Tryd.pinned (.plain (OpenSpec.ofChange recordBareSpec)) recordBareCard

/-- THE TIED CARD OF 'gatepostlaw12.RecordNew'. -/
def recordNewCard : Claim7 := { stood := { row := recordNewRow, standIns := [], harness := (true, "374b26a3c1110aa0e129b41bbb6d38a3e3141455c42878107cb42342c0a31a4e"), looks := false }, kinds := [], alts := [], laidByText := true, laidKinds := [.data, .data, .data], laidTests := true, laidLooks := .later }
def RecordNewCardSaid : Prop := Claim7.holds Tryd.pinned (.plain (OpenSpec.ofChange recordNewSpec)) recordNewCard

/-- THE TIED CARD OF 'gatepostlaw17.SiteTells'. -/
def siteTellsCard : Claim7 := { stood := { row := siteTellsRow, standIns := [], harness := (true, "374b26a3c1110aa0e129b41bbb6d38a3e3141455c42878107cb42342c0a31a4e"), looks := false }, kinds := [], alts := [], laidByText := true, laidKinds := [.data, .data, .data, .data, .pinned], laidTests := true, laidLooks := .later }
def SiteTellsCardSaid : Prop := Claim7.holds Tryd.pinned (.plain (OpenSpec.ofChange siteTellsSpec)) siteTellsCard

/-- THE TIED CARD OF 'gatepostlaw17.SiteOf'. -/
def siteOfCard : Claim7 := { stood := { row := siteOfRow, standIns := [], harness := (true, "374b26a3c1110aa0e129b41bbb6d38a3e3141455c42878107cb42342c0a31a4e"), looks := false }, kinds := [], alts := [], laidByText := true, laidKinds := [.data, .data, .data, .data, .pinned], laidTests := true, laidLooks := .later }
def SiteOfCardSaid : Prop := Claim7.holds Tryd.pinned (.plain (OpenSpec.ofChange siteOfSpec)) siteOfCard

/-- THE TIED CARD OF 'gatepostlaw17.SiteEnds'. -/
def siteEndsCard : Claim7 := { stood := { row := siteEndsRow, standIns := [], harness := (true, "374b26a3c1110aa0e129b41bbb6d38a3e3141455c42878107cb42342c0a31a4e"), looks := false }, kinds := [], alts := [], laidByText := true, laidKinds := [.data, .data, .data, .data, .pinned], laidTests := true, laidLooks := .later }
def SiteEndsCardSaid : Prop := Claim7.holds Tryd.pinned (.plain (OpenSpec.ofChange siteEndsSpec)) siteEndsCard

/-- THE TIED CARD OF 'gatepostlaw17.SiteAddress'. -/
def siteAddressCard : Claim7 := { stood := { row := siteAddressRow, standIns := [], harness := (true, "374b26a3c1110aa0e129b41bbb6d38a3e3141455c42878107cb42342c0a31a4e"), looks := false }, kinds := [], alts := [], laidByText := true, laidKinds := [.data, .data, .data, .data, .pinned], laidTests := true, laidLooks := .later }
def SiteAddressCardSaid : Prop := Claim7.holds Tryd.pinned (.plain (OpenSpec.ofChange siteAddressSpec)) siteAddressCard

/-- THE TIED CARD OF 'gatepostlaw17.SitePorts'. -/
def sitePortsCard : Claim7 := { stood := { row := sitePortsRow, standIns := [], harness := (true, "374b26a3c1110aa0e129b41bbb6d38a3e3141455c42878107cb42342c0a31a4e"), looks := false }, kinds := [], alts := [], laidByText := true, laidKinds := [.data, .data, .data, .data, .pinned], laidTests := true, laidLooks := .later }
def SitePortsCardSaid : Prop := Claim7.holds Tryd.pinned (.plain (OpenSpec.ofChange sitePortsSpec)) sitePortsCard

/-- THE SECOND FORM's CARD OF 'gatepostlaw12.RecordTexts'. -/
def recordTextsUptoCard : Claim7 := { stood := { row := recordTextsUptoRow, standIns := [], harness := (true, "374b26a3c1110aa0e129b41bbb6d38a3e3141455c42878107cb42342c0a31a4e"), looks := false }, kinds := [], alts := [], laidByText := true, laidKinds := [.data, .data, .data], laidTests := true, laidLooks := .later }
def RecordTextsUptoCardSaid : Prop := Claim7.holds Tryd.pinned (.plain (OpenSpec.upto recordTextsSpec)) recordTextsUptoCard

/-- THE SECOND FORM's CARD OF 'gatepostlaw12.RecordSame'. -/
def recordSameUptoCard : Claim7 := { stood := { row := recordSameUptoRow, standIns := [], harness := (true, "374b26a3c1110aa0e129b41bbb6d38a3e3141455c42878107cb42342c0a31a4e"), looks := false }, kinds := [], alts := [], laidByText := true, laidKinds := [.data, .data, .data], laidTests := true, laidLooks := .later }
def RecordSameUptoCardSaid : Prop := Claim7.holds Tryd.pinned (.plain (OpenSpec.upto recordSameSpec)) recordSameUptoCard

/-- THE SECOND FORM's CARD OF 'gatepostlaw12.RecordOne'. -/
def recordOneUptoCard : Claim7 := { stood := { row := recordOneUptoRow, standIns := [], harness := (true, "374b26a3c1110aa0e129b41bbb6d38a3e3141455c42878107cb42342c0a31a4e"), looks := false }, kinds := [], alts := [], laidByText := true, laidKinds := [.data, .data, .data], laidTests := true, laidLooks := .later }
def RecordOneUptoCardSaid : Prop := Claim7.holds Tryd.pinned (.plain (OpenSpec.upto recordOneSpec)) recordOneUptoCard

/-- THE SECOND FORM's CARD OF 'gatepostlaw12.RecordBare'. -/
def recordBareUptoCard : Claim7 := { stood := { row := recordBareUptoRow, standIns := [], harness := (true, "374b26a3c1110aa0e129b41bbb6d38a3e3141455c42878107cb42342c0a31a4e"), looks := false }, kinds := [], alts := [], laidByText := true, laidKinds := [.data, .data, .data], laidTests := true, laidLooks := .later }
def RecordBareUptoCardSaid : Prop := Claim7.holds Tryd.pinned (.plain (OpenSpec.upto recordBareSpec)) recordBareUptoCard

/-- THE SECOND FORM's CARD OF 'gatepostlaw12.RecordNew'. -/
def recordNewUptoCard : Claim7 := { stood := { row := recordNewUptoRow, standIns := [], harness := (true, "374b26a3c1110aa0e129b41bbb6d38a3e3141455c42878107cb42342c0a31a4e"), looks := false }, kinds := [], alts := [], laidByText := true, laidKinds := [.data, .data, .data], laidTests := true, laidLooks := .later }
def RecordNewUptoCardSaid : Prop := Claim7.holds Tryd.pinned (.plain (OpenSpec.upto recordNewSpec)) recordNewUptoCard

/-- THE SECOND FORM's CARD OF 'gatepostlaw17.SiteTells'. -/
def siteTellsUptoCard : Claim7 := { stood := { row := siteTellsUptoRow, standIns := [], harness := (true, "374b26a3c1110aa0e129b41bbb6d38a3e3141455c42878107cb42342c0a31a4e"), looks := false }, kinds := [], alts := [], laidByText := true, laidKinds := [.data, .data, .data, .data, .pinned], laidTests := true, laidLooks := .later }
def SiteTellsUptoCardSaid : Prop := Claim7.holds Tryd.pinned (.plain (OpenSpec.upto siteTellsSpec)) siteTellsUptoCard

/-- THE SECOND FORM's CARD OF 'gatepostlaw17.SiteOf'. -/
def siteOfUptoCard : Claim7 := { stood := { row := siteOfUptoRow, standIns := [], harness := (true, "374b26a3c1110aa0e129b41bbb6d38a3e3141455c42878107cb42342c0a31a4e"), looks := false }, kinds := [], alts := [], laidByText := true, laidKinds := [.data, .data, .data, .data, .pinned], laidTests := true, laidLooks := .later }
def SiteOfUptoCardSaid : Prop := Claim7.holds Tryd.pinned (.plain (OpenSpec.upto siteOfSpec)) siteOfUptoCard

/-- THE SECOND FORM's CARD OF 'gatepostlaw17.SiteEnds'. -/
def siteEndsUptoCard : Claim7 := { stood := { row := siteEndsUptoRow, standIns := [], harness := (true, "374b26a3c1110aa0e129b41bbb6d38a3e3141455c42878107cb42342c0a31a4e"), looks := false }, kinds := [], alts := [], laidByText := true, laidKinds := [.data, .data, .data, .data, .pinned], laidTests := true, laidLooks := .later }
def SiteEndsUptoCardSaid : Prop := Claim7.holds Tryd.pinned (.plain (OpenSpec.upto siteEndsSpec)) siteEndsUptoCard

/-- THE SECOND FORM's CARD OF 'gatepostlaw17.SiteAddress'. -/
def siteAddressUptoCard : Claim7 := { stood := { row := siteAddressUptoRow, standIns := [], harness := (true, "374b26a3c1110aa0e129b41bbb6d38a3e3141455c42878107cb42342c0a31a4e"), looks := false }, kinds := [], alts := [], laidByText := true, laidKinds := [.data, .data, .data, .data, .pinned], laidTests := true, laidLooks := .later }
def SiteAddressUptoCardSaid : Prop := Claim7.holds Tryd.pinned (.plain (OpenSpec.upto siteAddressSpec)) siteAddressUptoCard

/-- THE SECOND FORM's CARD OF 'gatepostlaw17.SitePorts'. -/
def sitePortsUptoCard : Claim7 := { stood := { row := sitePortsUptoRow, standIns := [], harness := (true, "374b26a3c1110aa0e129b41bbb6d38a3e3141455c42878107cb42342c0a31a4e"), looks := false }, kinds := [], alts := [], laidByText := true, laidKinds := [.data, .data, .data, .data, .pinned], laidTests := true, laidLooks := .later }
def SitePortsUptoCardSaid : Prop := Claim7.holds Tryd.pinned (.plain (OpenSpec.upto sitePortsSpec)) sitePortsUptoCard
end Rows
end Go.Proofs.YtgljkgkmbfhgiaaDoor
