/-
  NARROWER THAN 'FOR EVERY INPUT', by the rows' own cells (each row's printed sentence says how): SlotsActs: laid · SlotsNew: laid · SlotsCounts: laid · SlotsStale: laid.
  DERIVED. THE GIVEN ROWS OF THIS SEAT. 4 by the template 'for every input the law returns true; each argument reads behind the call as it read before'; 0 by the template 'total and deterministic' (their statements: YtkmmnmicmjohgaaDoorTotals.lean).
  GIVEN WITH THE SEED: the statements are not yours to turn. If you find one false, say at which input.
  Laid BY PROGRAM, IN A SANDBOX (cutbox-rows.mjs): the forced cells as the released guide's own fill.sh prints them over the translation 886a82cb6c94c9b0… (all of the seat's roots in one cut). By AI agents, Wed Nov 11 2026. No macro, syntax, notation, axiom, sorry.
-/
import Derived.Test.YtkmmnmicmjohgaaDoorChecked
import GoSem.Claim
import GoSem.ClaimJoined
import GoSem.ClaimMapViews
import Derived.JoinedTies
import Derived.KernelRfl
namespace Go.Proofs.YtkmmnmicmjohgaaDoor
/- THE CELL 'sum', in the pinned program and in every row, IS THE sha256 OF THE DUMP (.gsa) THAT YtkmmnmicmjohgaaDoorProg.lean LOADS. Nothing in Lean hashes anything: it is a label: what it is worth is what the hold of that sum in a sandbox is worth. -/
noncomputable def Tryd.pinned : Pinned := { name := "ytkmmnmicmjohgaadoor", sum := "886a82cb6c94c9b09f7f40cffb83d8b05fb3c79dbb58047dfd74c9748349dedb", checked := Tryd.checked }
namespace Rows
def none {H : Type} : Left H := { results := [], args := [] }

/- WHAT THE LISTED PACKAGE-LEVEL VARIABLES READ AS WHEN THE CALL BEGINS. Each datum BY PROGRAM (the guide's laid-datum.mjs) off the statement by which the dump's own 'gosem.cut.vars' lays the variable. In a bare row this is a premise. The card (YtkmmnmicmjohgaaDoorCards.lean) ties it to the program's text. -/
def laid_errors_errorType {H : Type} : DataW H := .iface "internal/reflectlite.rtype" (.agg [.ptr (.lit (.string [101, 114, 114, 111, 114]))])

/-- 'gatepostlaw19.SlotsActs': WHATEVER THE INPUT: true; the input reads as it did. -/
def slotsActsSpec : ChangeSpec := { name := "slotsActs", fn := fun _ => fun
  | [d1, d2] => { results := [.lit (.bool true)], args := [d1, d2] }
  | _ => none }
def slotsActsRow : OpenClaim := { program := "ytkmmnmicmjohgaadoor", sum := "886a82cb6c94c9b09f7f40cffb83d8b05fb3c79dbb58047dfd74c9748349dedb", func := "gatepost/gatepostlaw19.SlotsActs", spec := "slotsActs", inPlace := ["internal/reflectlite.TypeOf", "internal/reflectlite.ValueOf", "(internal/reflectlite.Value).Type", "(internal/reflectlite.Value).IsNil", "(internal/reflectlite.Value).Elem", "(internal/reflectlite.Value).Set"], unfollowed := true, recurses := true, named := ["errors.errorType"], apart := false, laid := [("errors.errorType", laid_errors_errorType)] }
def SlotsActsSaid : Prop := slotsActsRow.holds Tryd.pinned (OpenSpec.ofChange slotsActsSpec)

/-- ITS FALSE NEIGHBOUR: 'it returns false'. Refute it at one input. -/
def slotsActsWrong : ChangeSpec := { name := "slotsActs", fn := fun _ => fun
  | [d1, d2] => { results := [.lit (.bool false)], args := [d1, d2] }
  | _ => none }
def SlotsActsWrongFalsely : Prop := slotsActsRow.holds Tryd.pinned (OpenSpec.ofChange slotsActsWrong)

/-- 'gatepostlaw19.SlotsNew': WHATEVER THE INPUT: true; the input reads as it did. -/
def slotsNewSpec : ChangeSpec := { name := "slotsNew", fn := fun _ => fun
  | [d1, d2] => { results := [.lit (.bool true)], args := [d1, d2] }
  | _ => none }
def slotsNewRow : OpenClaim := { program := "ytkmmnmicmjohgaadoor", sum := "886a82cb6c94c9b09f7f40cffb83d8b05fb3c79dbb58047dfd74c9748349dedb", func := "gatepost/gatepostlaw19.SlotsNew", spec := "slotsNew", inPlace := ["internal/reflectlite.TypeOf", "internal/reflectlite.ValueOf", "(internal/reflectlite.Value).Type", "(internal/reflectlite.Value).IsNil", "(internal/reflectlite.Value).Elem", "(internal/reflectlite.Value).Set"], unfollowed := true, recurses := true, named := ["errors.errorType"], apart := false, laid := [("errors.errorType", laid_errors_errorType)] }
def SlotsNewSaid : Prop := slotsNewRow.holds Tryd.pinned (OpenSpec.ofChange slotsNewSpec)

/-- ITS FALSE NEIGHBOUR: 'it returns false'. Refute it at one input. -/
def slotsNewWrong : ChangeSpec := { name := "slotsNew", fn := fun _ => fun
  | [d1, d2] => { results := [.lit (.bool false)], args := [d1, d2] }
  | _ => none }
def SlotsNewWrongFalsely : Prop := slotsNewRow.holds Tryd.pinned (OpenSpec.ofChange slotsNewWrong)

/-- 'gatepostlaw19.SlotsCounts': WHATEVER THE INPUT: true; the input reads as it did. -/
def slotsCountsSpec : ChangeSpec := { name := "slotsCounts", fn := fun _ => fun
  | [d1, d2, d3] => { results := [.lit (.bool true)], args := [d1, d2, d3] }
  | _ => none }
def slotsCountsRow : OpenClaim := { program := "ytkmmnmicmjohgaadoor", sum := "886a82cb6c94c9b09f7f40cffb83d8b05fb3c79dbb58047dfd74c9748349dedb", func := "gatepost/gatepostlaw19.SlotsCounts", spec := "slotsCounts", inPlace := ["internal/reflectlite.TypeOf", "internal/reflectlite.ValueOf", "(internal/reflectlite.Value).Type", "(internal/reflectlite.Value).IsNil", "(internal/reflectlite.Value).Elem", "(internal/reflectlite.Value).Set"], unfollowed := true, recurses := true, named := ["errors.errorType"], apart := false, laid := [("errors.errorType", laid_errors_errorType)] }
def SlotsCountsSaid : Prop := slotsCountsRow.holds Tryd.pinned (OpenSpec.ofChange slotsCountsSpec)

/-- ITS FALSE NEIGHBOUR: 'it returns false'. Refute it at one input. -/
def slotsCountsWrong : ChangeSpec := { name := "slotsCounts", fn := fun _ => fun
  | [d1, d2, d3] => { results := [.lit (.bool false)], args := [d1, d2, d3] }
  | _ => none }
def SlotsCountsWrongFalsely : Prop := slotsCountsRow.holds Tryd.pinned (OpenSpec.ofChange slotsCountsWrong)

/-- 'gatepostlaw19.SlotsStale': WHATEVER THE INPUT: true; the input reads as it did. -/
def slotsStaleSpec : ChangeSpec := { name := "slotsStale", fn := fun _ => fun
  | [d1, d2, d3] => { results := [.lit (.bool true)], args := [d1, d2, d3] }
  | _ => none }
def slotsStaleRow : OpenClaim := { program := "ytkmmnmicmjohgaadoor", sum := "886a82cb6c94c9b09f7f40cffb83d8b05fb3c79dbb58047dfd74c9748349dedb", func := "gatepost/gatepostlaw19.SlotsStale", spec := "slotsStale", inPlace := ["internal/reflectlite.TypeOf", "internal/reflectlite.ValueOf", "(internal/reflectlite.Value).Type", "(internal/reflectlite.Value).IsNil", "(internal/reflectlite.Value).Elem", "(internal/reflectlite.Value).Set"], unfollowed := true, recurses := true, named := ["errors.errorType"], apart := false, laid := [("errors.errorType", laid_errors_errorType)] }
def SlotsStaleSaid : Prop := slotsStaleRow.holds Tryd.pinned (OpenSpec.ofChange slotsStaleSpec)

/-- ITS FALSE NEIGHBOUR: 'it returns false'. Refute it at one input. -/
def slotsStaleWrong : ChangeSpec := { name := "slotsStale", fn := fun _ => fun
  | [d1, d2, d3] => { results := [.lit (.bool false)], args := [d1, d2, d3] }
  | _ => none }
def SlotsStaleWrongFalsely : Prop := slotsStaleRow.holds Tryd.pinned (OpenSpec.ofChange slotsStaleWrong)

/- THE SECOND FORM. 'bulk': how many values and letters a reading holds, each counted each time it is reached (what is shared counts as often as it is met; a slice's spare places count too). A statement '..UptoSaid' is the law's where the arguments, and the package variables that the reading takes, are together of bulk at most 1048576: NARROWER than '..Said'. Prove '..Said' where nothing that the law and all that it calls make is longer than what came in: it says more and counts as full. Else prove '..UptoSaid'. A law counts once. -/
mutual
def uptoBulk {H : Type} : DataW H → Nat
  | .lit (.string bytes) => bytes.length + 1
  | .lit _ => 1
  | .nil => 1
  | .ptr d => uptoBulk d + 1
  | .slice elems spare => uptoBulkAll elems + uptoBulkAll spare + 1
  | .agg parts => uptoBulkAll parts + 1
  | .iface _ d => uptoBulk d + 1
  | .map entries => uptoBulkEntries entries + 1
  | .held _ => 1
def uptoBulkAll {H : Type} : List (DataW H) → Nat
  | [] => 0
  | d :: r => uptoBulk d + uptoBulkAll r
def uptoBulkEntries {H : Type} : List (Lit × DataW H) → Nat
  | [] => 0
  | x :: r => uptoBulkEntry x + uptoBulkEntries r
def uptoBulkEntry {H : Type} : Lit × DataW H → Nat
  | (.string bytes, d) => bytes.length + uptoBulk d + 1
  | (_, d) => uptoBulk d + 1
 end
def uptoSmall : (H : Type) → List (DataW H) → Bool := fun _ ds => decide (uptoBulkAll ds ≤ 1048576)
def OpenSpec.upto (s : _root_.Go.ChangeSpec) : _root_.Go.OpenSpec := { _root_.Go.OpenSpec.ofChange s with cond := some uptoSmall }

/-- 'gatepostlaw19.SlotsActs', WHERE WHAT IT READS IS OF BULK AT MOST 1048576: true; the input reads as it did. -/
def slotsActsUptoRow : OpenClaim := { program := "ytkmmnmicmjohgaadoor", sum := "886a82cb6c94c9b09f7f40cffb83d8b05fb3c79dbb58047dfd74c9748349dedb", func := "gatepost/gatepostlaw19.SlotsActs", spec := "slotsActs", inPlace := ["internal/reflectlite.TypeOf", "internal/reflectlite.ValueOf", "(internal/reflectlite.Value).Type", "(internal/reflectlite.Value).IsNil", "(internal/reflectlite.Value).Elem", "(internal/reflectlite.Value).Set"], unfollowed := true, recurses := true, named := ["errors.errorType"], apart := false, laid := [("errors.errorType", laid_errors_errorType)], narrowed := true }
def SlotsActsUptoSaid : Prop := slotsActsUptoRow.holds Tryd.pinned (OpenSpec.upto slotsActsSpec)

/-- 'gatepostlaw19.SlotsNew', WHERE WHAT IT READS IS OF BULK AT MOST 1048576: true; the input reads as it did. -/
def slotsNewUptoRow : OpenClaim := { program := "ytkmmnmicmjohgaadoor", sum := "886a82cb6c94c9b09f7f40cffb83d8b05fb3c79dbb58047dfd74c9748349dedb", func := "gatepost/gatepostlaw19.SlotsNew", spec := "slotsNew", inPlace := ["internal/reflectlite.TypeOf", "internal/reflectlite.ValueOf", "(internal/reflectlite.Value).Type", "(internal/reflectlite.Value).IsNil", "(internal/reflectlite.Value).Elem", "(internal/reflectlite.Value).Set"], unfollowed := true, recurses := true, named := ["errors.errorType"], apart := false, laid := [("errors.errorType", laid_errors_errorType)], narrowed := true }
def SlotsNewUptoSaid : Prop := slotsNewUptoRow.holds Tryd.pinned (OpenSpec.upto slotsNewSpec)

/-- 'gatepostlaw19.SlotsCounts', WHERE WHAT IT READS IS OF BULK AT MOST 1048576: true; the input reads as it did. -/
def slotsCountsUptoRow : OpenClaim := { program := "ytkmmnmicmjohgaadoor", sum := "886a82cb6c94c9b09f7f40cffb83d8b05fb3c79dbb58047dfd74c9748349dedb", func := "gatepost/gatepostlaw19.SlotsCounts", spec := "slotsCounts", inPlace := ["internal/reflectlite.TypeOf", "internal/reflectlite.ValueOf", "(internal/reflectlite.Value).Type", "(internal/reflectlite.Value).IsNil", "(internal/reflectlite.Value).Elem", "(internal/reflectlite.Value).Set"], unfollowed := true, recurses := true, named := ["errors.errorType"], apart := false, laid := [("errors.errorType", laid_errors_errorType)], narrowed := true }
def SlotsCountsUptoSaid : Prop := slotsCountsUptoRow.holds Tryd.pinned (OpenSpec.upto slotsCountsSpec)

/-- 'gatepostlaw19.SlotsStale', WHERE WHAT IT READS IS OF BULK AT MOST 1048576: true; the input reads as it did. -/
def slotsStaleUptoRow : OpenClaim := { program := "ytkmmnmicmjohgaadoor", sum := "886a82cb6c94c9b09f7f40cffb83d8b05fb3c79dbb58047dfd74c9748349dedb", func := "gatepost/gatepostlaw19.SlotsStale", spec := "slotsStale", inPlace := ["internal/reflectlite.TypeOf", "internal/reflectlite.ValueOf", "(internal/reflectlite.Value).Type", "(internal/reflectlite.Value).IsNil", "(internal/reflectlite.Value).Elem", "(internal/reflectlite.Value).Set"], unfollowed := true, recurses := true, named := ["errors.errorType"], apart := false, laid := [("errors.errorType", laid_errors_errorType)], narrowed := true }
def SlotsStaleUptoSaid : Prop := slotsStaleUptoRow.holds Tryd.pinned (OpenSpec.upto slotsStaleSpec)

end Rows
end Go.Proofs.YtkmmnmicmjohgaaDoor
