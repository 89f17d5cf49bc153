/-
  DERIVED. GIVEN WITH THE SEED: THE CARDS: each row of YtlpjjbkpoaohnaaDoorRows.lean that lists a variable, with what it lists TIED to the program's text (the seventh form; the later family's looks); each row that meets fmt, with fmt's text TOLD by the authors' own Lean function (tested against real Go, not proved from fmt's source: count such statements apart). THE CARD IS WHAT COUNTS. Prove the row's statement (the work); the ties are given (YtlpjjbkpoaohnaaDoorTie.lean); close each card by the builder's one call (the guide's Derived/Test/ToyasCard.lean, 'card_holds'). Laid BY PROGRAM, IN A SANDBOX (cutbox-door.mjs). By AI agents, Wed Nov 11 2026. No macro, syntax, notation, axiom, sorry.
-/
import Derived.Test.YtlpjjbkpoaohnaaDoorRows
import GoSem.ClaimSeven
namespace Go.Proofs.YtlpjjbkpoaohnaaDoor
namespace Rows

/-- THE TIED CARD OF 'gatepostlaw20.TableNew'. -/
def tableNewCard : Claim7 := { stood := { row := tableNewRow, standIns := [], harness := (true, "5bda51c4ca3328e1f75da56ba5db965c733c69b3217b22326bf4809e45f4f3e8"), looks := true }, kinds := [], alts := [], laidByText := true, laidKinds := [.handle], laidTests := true, laidLooks := .later }
def TableNewCardSaid : Prop := Claim7.holds Tryd.pinned (.plain (OpenSpec.ofChange tableNewSpec)) tableNewCard

/-- THE TIED CARD OF 'gatepostlaw20.TableActs'. -/
def tableActsCard : Claim7 := { stood := { row := tableActsRow, standIns := [], harness := (true, "5bda51c4ca3328e1f75da56ba5db965c733c69b3217b22326bf4809e45f4f3e8"), looks := true }, kinds := [], alts := [], laidByText := true, laidKinds := [.handle], laidTests := true, laidLooks := .later }
def TableActsCardSaid : Prop := Claim7.holds Tryd.pinned (.plain (OpenSpec.ofChange tableActsSpec)) tableActsCard

/-- THE TIED CARD OF 'gatepostlaw20.TableOnce'. -/
def tableOnceCard : Claim7 := { stood := { row := tableOnceRow, standIns := [], harness := (true, "5bda51c4ca3328e1f75da56ba5db965c733c69b3217b22326bf4809e45f4f3e8"), looks := true }, kinds := [], alts := [], laidByText := true, laidKinds := [.handle], laidTests := true, laidLooks := .later }
def TableOnceCardSaid : Prop := Claim7.holds Tryd.pinned (.plain (OpenSpec.ofChange tableOnceSpec)) tableOnceCard

/-- THE SECOND FORM's CARD OF 'gatepostlaw20.TableNew'. -/
def tableNewUptoCard : Claim7 := { stood := { row := tableNewUptoRow, standIns := [], harness := (true, "5bda51c4ca3328e1f75da56ba5db965c733c69b3217b22326bf4809e45f4f3e8"), looks := true }, kinds := [], alts := [], laidByText := true, laidKinds := [.handle], laidTests := true, laidLooks := .later }
def TableNewUptoCardSaid : Prop := Claim7.holds Tryd.pinned (.plain (OpenSpec.upto tableNewSpec)) tableNewUptoCard

/-- THE SECOND FORM's CARD OF 'gatepostlaw20.TableActs'. -/
def tableActsUptoCard : Claim7 := { stood := { row := tableActsUptoRow, standIns := [], harness := (true, "5bda51c4ca3328e1f75da56ba5db965c733c69b3217b22326bf4809e45f4f3e8"), looks := true }, kinds := [], alts := [], laidByText := true, laidKinds := [.handle], laidTests := true, laidLooks := .later }
def TableActsUptoCardSaid : Prop := Claim7.holds Tryd.pinned (.plain (OpenSpec.upto tableActsSpec)) tableActsUptoCard

/-- THE SECOND FORM's CARD OF 'gatepostlaw20.TableOnce'. -/
def tableOnceUptoCard : Claim7 := { stood := { row := tableOnceUptoRow, standIns := [], harness := (true, "5bda51c4ca3328e1f75da56ba5db965c733c69b3217b22326bf4809e45f4f3e8"), looks := true }, kinds := [], alts := [], laidByText := true, laidKinds := [.handle], laidTests := true, laidLooks := .later }
def TableOnceUptoCardSaid : Prop := Claim7.holds Tryd.pinned (.plain (OpenSpec.upto tableOnceSpec)) tableOnceUptoCard
end Rows
end Go.Proofs.YtlpjjbkpoaohnaaDoor
