/-
  NARROWER THAN 'FOR EVERY INPUT', by the rows' own cells (each row's printed sentence says how): PunyEncodes: laid · PunyDecodes: laid.
  DERIVED. THE GIVEN ROWS OF THIS SEAT. 2 by the template 'for every input the law returns true; each argument reads behind the call as it read before'; 0 by the template 'total and deterministic' (their statements: YtbeibfhnbnmocaaDoorTotals.lean).
  GIVEN WITH THE SEED: the statements are not yours to turn. If you find one false, say at which input.
  Laid BY PROGRAM, IN A SANDBOX (cutbox-rows.mjs): the forced cells as the released guide's own fill.sh prints them over the translation f93d9b7cca51623e… (all of the seat's roots in one cut). By AI agents, Wed Nov 11 2026. No macro, syntax, notation, axiom, sorry.
-/
import Derived.Test.YtbeibfhnbnmocaaDoorChecked
import GoSem.Claim
import GoSem.ClaimJoined
import GoSem.ClaimMapViews
import Derived.JoinedTies
import Derived.KernelRfl
namespace Go.Proofs.YtbeibfhnbnmocaaDoor
/- THE CELL 'sum', in the pinned program and in every row, IS THE sha256 OF THE DUMP (.gsa) THAT YtbeibfhnbnmocaaDoorProg.lean LOADS. Nothing in Lean hashes anything: it is a label: what it is worth is what the hold of that sum in a sandbox is worth. -/
noncomputable def Tryd.pinned : Pinned := { name := "ytbeibfhnbnmocaadoor", sum := "f93d9b7cca51623ecc9decafc10257c1c3cda64acfd21410d02565ba74e605d9", checked := Tryd.checked }
namespace Rows
def none {H : Type} : Left H := { results := [], args := [] }

/- WHAT THE LISTED PACKAGE-LEVEL VARIABLES READ AS WHEN THE CALL BEGINS. Each datum BY PROGRAM (the guide's laid-datum.mjs) off the statement by which the dump's own 'gosem.cut.vars' lays the variable. In a bare row this is a premise. The card (YtbeibfhnbnmocaaDoorCards.lean) ties it to the program's text. -/
def laid_errors_errorType {H : Type} : DataW H := .iface "internal/reflectlite.rtype" (.agg [.ptr (.lit (.string [101, 114, 114, 111, 114]))])

/-- 'gatepostlaw04.PunyEncodes': WHATEVER THE INPUT: true; the input reads as it did. -/
def punyEncodesSpec : ChangeSpec := { name := "punyEncodes", fn := fun _ => fun
  | [d] => { results := [.lit (.bool true)], args := [d] }
  | _ => none }
def punyEncodesRow : OpenClaim := { program := "ytbeibfhnbnmocaadoor", sum := "f93d9b7cca51623ecc9decafc10257c1c3cda64acfd21410d02565ba74e605d9", func := "gatepost/gatepostlaw04.PunyEncodes", spec := "punyEncodes", inPlace := ["internal/abi.NoEscape", "internal/bytealg.IndexByteString", "slices.overlaps[rune]", "internal/reflectlite.TypeOf", "internal/reflectlite.ValueOf", "(internal/reflectlite.Value).Type", "(internal/reflectlite.Value).IsNil", "(internal/reflectlite.Value).Elem", "(internal/reflectlite.Value).Set"], unfollowed := true, recurses := true, named := ["errors.errorType"], apart := false, laid := [("errors.errorType", laid_errors_errorType)] }
def PunyEncodesSaid : Prop := punyEncodesRow.holds Tryd.pinned (OpenSpec.ofChange punyEncodesSpec)

/-- ITS FALSE NEIGHBOUR: 'it returns false'. Refute it at one input. -/
def punyEncodesWrong : ChangeSpec := { name := "punyEncodes", fn := fun _ => fun
  | [d] => { results := [.lit (.bool false)], args := [d] }
  | _ => none }
def PunyEncodesWrongFalsely : Prop := punyEncodesRow.holds Tryd.pinned (OpenSpec.ofChange punyEncodesWrong)

/-- 'gatepostlaw04.PunyDecodes': WHATEVER THE INPUT: true; the input reads as it did. -/
def punyDecodesSpec : ChangeSpec := { name := "punyDecodes", fn := fun _ => fun
  | [d] => { results := [.lit (.bool true)], args := [d] }
  | _ => none }
def punyDecodesRow : OpenClaim := { program := "ytbeibfhnbnmocaadoor", sum := "f93d9b7cca51623ecc9decafc10257c1c3cda64acfd21410d02565ba74e605d9", func := "gatepost/gatepostlaw04.PunyDecodes", spec := "punyDecodes", inPlace := ["internal/abi.NoEscape", "internal/bytealg.IndexByteString", "slices.overlaps[rune]", "internal/reflectlite.TypeOf", "internal/reflectlite.ValueOf", "(internal/reflectlite.Value).Type", "(internal/reflectlite.Value).IsNil", "(internal/reflectlite.Value).Elem", "(internal/reflectlite.Value).Set"], unfollowed := true, recurses := true, named := ["errors.errorType"], apart := false, laid := [("errors.errorType", laid_errors_errorType)] }
def PunyDecodesSaid : Prop := punyDecodesRow.holds Tryd.pinned (OpenSpec.ofChange punyDecodesSpec)

/-- ITS FALSE NEIGHBOUR: 'it returns false'. Refute it at one input. -/
def punyDecodesWrong : ChangeSpec := { name := "punyDecodes", fn := fun _ => fun
  | [d] => { results := [.lit (.bool false)], args := [d] }
  | _ => none }
def PunyDecodesWrongFalsely : Prop := punyDecodesRow.holds Tryd.pinned (OpenSpec.ofChange punyDecodesWrong)

/- THE SECOND FORM. 'bulk': how many values and letters a reading holds, each counted each time it is reached (what is shared counts as often as it is met; a slice's spare places count too). A statement '..UptoSaid' is the law's where the arguments, and the package variables that the reading takes, are together of bulk at most 1048576: NARROWER than '..Said'. Prove '..Said' where nothing that the law and all that it calls make is longer than what came in: it says more and counts as full. Else prove '..UptoSaid'. A law counts once. -/
mutual
def uptoBulk {H : Type} : DataW H → Nat
  | .lit (.string bytes) => bytes.length + 1
  | .lit _ => 1
  | .nil => 1
  | .ptr d => uptoBulk d + 1
  | .slice elems spare => uptoBulkAll elems + uptoBulkAll spare + 1
  | .agg parts => uptoBulkAll parts + 1
  | .iface _ d => uptoBulk d + 1
  | .map entries => uptoBulkEntries entries + 1
  | .held _ => 1
def uptoBulkAll {H : Type} : List (DataW H) → Nat
  | [] => 0
  | d :: r => uptoBulk d + uptoBulkAll r
def uptoBulkEntries {H : Type} : List (Lit × DataW H) → Nat
  | [] => 0
  | x :: r => uptoBulkEntry x + uptoBulkEntries r
def uptoBulkEntry {H : Type} : Lit × DataW H → Nat
  | (.string bytes, d) => bytes.length + uptoBulk d + 1
  | (_, d) => uptoBulk d + 1
 end
def uptoSmall : (H : Type) → List (DataW H) → Bool := fun _ ds => decide (uptoBulkAll ds ≤ 1048576)
def OpenSpec.upto (s : _root_.Go.ChangeSpec) : _root_.Go.OpenSpec := { _root_.Go.OpenSpec.ofChange s with cond := some uptoSmall }

/-- 'gatepostlaw04.PunyEncodes', WHERE WHAT IT READS IS OF BULK AT MOST 1048576: true; the input reads as it did. -/
def punyEncodesUptoRow : OpenClaim := { program := "ytbeibfhnbnmocaadoor", sum := "f93d9b7cca51623ecc9decafc10257c1c3cda64acfd21410d02565ba74e605d9", func := "gatepost/gatepostlaw04.PunyEncodes", spec := "punyEncodes", inPlace := ["internal/abi.NoEscape", "internal/bytealg.IndexByteString", "slices.overlaps[rune]", "internal/reflectlite.TypeOf", "internal/reflectlite.ValueOf", "(internal/reflectlite.Value).Type", "(internal/reflectlite.Value).IsNil", "(internal/reflectlite.Value).Elem", "(internal/reflectlite.Value).Set"], unfollowed := true, recurses := true, named := ["errors.errorType"], apart := false, laid := [("errors.errorType", laid_errors_errorType)], narrowed := true }
def PunyEncodesUptoSaid : Prop := punyEncodesUptoRow.holds Tryd.pinned (OpenSpec.upto punyEncodesSpec)

/-- 'gatepostlaw04.PunyDecodes', WHERE WHAT IT READS IS OF BULK AT MOST 1048576: true; the input reads as it did. -/
def punyDecodesUptoRow : OpenClaim := { program := "ytbeibfhnbnmocaadoor", sum := "f93d9b7cca51623ecc9decafc10257c1c3cda64acfd21410d02565ba74e605d9", func := "gatepost/gatepostlaw04.PunyDecodes", spec := "punyDecodes", inPlace := ["internal/abi.NoEscape", "internal/bytealg.IndexByteString", "slices.overlaps[rune]", "internal/reflectlite.TypeOf", "internal/reflectlite.ValueOf", "(internal/reflectlite.Value).Type", "(internal/reflectlite.Value).IsNil", "(internal/reflectlite.Value).Elem", "(internal/reflectlite.Value).Set"], unfollowed := true, recurses := true, named := ["errors.errorType"], apart := false, laid := [("errors.errorType", laid_errors_errorType)], narrowed := true }
def PunyDecodesUptoSaid : Prop := punyDecodesUptoRow.holds Tryd.pinned (OpenSpec.upto punyDecodesSpec)

end Rows
end Go.Proofs.YtbeibfhnbnmocaaDoor
