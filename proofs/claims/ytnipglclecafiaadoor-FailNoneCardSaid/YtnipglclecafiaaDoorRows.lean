/-
  NARROWER THAN 'FOR EVERY INPUT', by the rows' own cells (each row's printed sentence says how): FailTells: laid · FailIs: laid · FailAs: laid · FailNone: laid · FailApart: laid.
  DERIVED. THE GIVEN ROWS OF THIS SEAT. 5 by the template 'for every input the law returns true; each argument reads behind the call as it read before'; 0 by the template 'total and deterministic' (their statements: YtnipglclecafiaaDoorTotals.lean).
  GIVEN WITH THE SEED: the statements are not yours to turn. If you find one false, say at which input.
  Laid BY PROGRAM, IN A SANDBOX (cutbox-rows.mjs): the forced cells as the released guide's own fill.sh prints them over the translation b842e5bf6eb3fb00… (all of the seat's roots in one cut). By AI agents, Wed Nov 11 2026. No macro, syntax, notation, axiom, sorry.
-/
import Derived.Test.YtnipglclecafiaaDoorChecked
import GoSem.Claim
import GoSem.ClaimJoined
import GoSem.ClaimMapViews
import Derived.JoinedTies
import Derived.KernelRfl
namespace Go.Proofs.YtnipglclecafiaaDoor
/- THE CELL 'sum', in the pinned program and in every row, IS THE sha256 OF THE DUMP (.gsa) THAT YtnipglclecafiaaDoorProg.lean LOADS. Nothing in Lean hashes anything: it is a label: what it is worth is what the hold of that sum in a sandbox is worth. -/
noncomputable def Tryd.pinned : Pinned := { name := "ytnipglclecafiaadoor", sum := "b842e5bf6eb3fb007415086f6735e34be5bde969523b106a011b09677f631e4b", checked := Tryd.checked }
namespace Rows
def none {H : Type} : Left H := { results := [], args := [] }

/- WHAT THE LISTED PACKAGE-LEVEL VARIABLES READ AS WHEN THE CALL BEGINS. Each datum BY PROGRAM (the guide's laid-datum.mjs) off the statement by which the dump's own 'gosem.cut.vars' lays the variable. In a bare row this is a premise. The card (YtnipglclecafiaaDoorCards.lean) ties it to the program's text. -/
def laid_errors_errorType {H : Type} : DataW H := .iface "internal/reflectlite.rtype" (.agg [.ptr (.lit (.string [101, 114, 114, 111, 114]))])

/-- 'gatepostlaw01.FailTells': WHATEVER THE INPUT: true; the input reads as it did. -/
def failTellsSpec : ChangeSpec := { name := "failTells", fn := fun _ => fun
  | [d1, d2] => { results := [.lit (.bool true)], args := [d1, d2] }
  | _ => none }
def failTellsRow : OpenClaim := { program := "ytnipglclecafiaadoor", sum := "b842e5bf6eb3fb007415086f6735e34be5bde969523b106a011b09677f631e4b", func := "gatepost/gatepostlaw01.FailTells", spec := "failTells", inPlace := ["internal/reflectlite.ValueOf", "(internal/reflectlite.Value).Type", "(internal/reflectlite.Value).IsNil", "internal/reflectlite.TypeOf", "(internal/reflectlite.Value).Elem", "(internal/reflectlite.Value).Set"], unfollowed := true, recurses := true, named := ["errors.errorType"], apart := false, laid := [("errors.errorType", laid_errors_errorType)] }
def FailTellsSaid : Prop := failTellsRow.holds Tryd.pinned (OpenSpec.ofChange failTellsSpec)

/-- ITS FALSE NEIGHBOUR: 'it returns false'. Refute it at one input. -/
def failTellsWrong : ChangeSpec := { name := "failTells", fn := fun _ => fun
  | [d1, d2] => { results := [.lit (.bool false)], args := [d1, d2] }
  | _ => none }
def FailTellsWrongFalsely : Prop := failTellsRow.holds Tryd.pinned (OpenSpec.ofChange failTellsWrong)

/-- 'gatepostlaw01.FailIs': WHATEVER THE INPUT: true; the input reads as it did. -/
def failIsSpec : ChangeSpec := { name := "failIs", fn := fun _ => fun
  | [d1, d2, d3] => { results := [.lit (.bool true)], args := [d1, d2, d3] }
  | _ => none }
def failIsRow : OpenClaim := { program := "ytnipglclecafiaadoor", sum := "b842e5bf6eb3fb007415086f6735e34be5bde969523b106a011b09677f631e4b", func := "gatepost/gatepostlaw01.FailIs", spec := "failIs", inPlace := ["internal/reflectlite.ValueOf", "(internal/reflectlite.Value).Type", "(internal/reflectlite.Value).IsNil", "internal/reflectlite.TypeOf", "(internal/reflectlite.Value).Elem", "(internal/reflectlite.Value).Set"], unfollowed := true, recurses := true, named := ["errors.errorType"], apart := false, laid := [("errors.errorType", laid_errors_errorType)] }
def FailIsSaid : Prop := failIsRow.holds Tryd.pinned (OpenSpec.ofChange failIsSpec)

/-- ITS FALSE NEIGHBOUR: 'it returns false'. Refute it at one input. -/
def failIsWrong : ChangeSpec := { name := "failIs", fn := fun _ => fun
  | [d1, d2, d3] => { results := [.lit (.bool false)], args := [d1, d2, d3] }
  | _ => none }
def FailIsWrongFalsely : Prop := failIsRow.holds Tryd.pinned (OpenSpec.ofChange failIsWrong)

/-- 'gatepostlaw01.FailAs': WHATEVER THE INPUT: true; the input reads as it did. -/
def failAsSpec : ChangeSpec := { name := "failAs", fn := fun _ => fun
  | [d1, d2, d3] => { results := [.lit (.bool true)], args := [d1, d2, d3] }
  | _ => none }
def failAsRow : OpenClaim := { program := "ytnipglclecafiaadoor", sum := "b842e5bf6eb3fb007415086f6735e34be5bde969523b106a011b09677f631e4b", func := "gatepost/gatepostlaw01.FailAs", spec := "failAs", inPlace := ["internal/reflectlite.ValueOf", "(internal/reflectlite.Value).Type", "(internal/reflectlite.Value).IsNil", "internal/reflectlite.TypeOf", "(internal/reflectlite.Value).Elem", "(internal/reflectlite.Value).Set"], unfollowed := true, recurses := true, named := ["errors.errorType"], apart := false, laid := [("errors.errorType", laid_errors_errorType)] }
def FailAsSaid : Prop := failAsRow.holds Tryd.pinned (OpenSpec.ofChange failAsSpec)

/-- ITS FALSE NEIGHBOUR: 'it returns false'. Refute it at one input. -/
def failAsWrong : ChangeSpec := { name := "failAs", fn := fun _ => fun
  | [d1, d2, d3] => { results := [.lit (.bool false)], args := [d1, d2, d3] }
  | _ => none }
def FailAsWrongFalsely : Prop := failAsRow.holds Tryd.pinned (OpenSpec.ofChange failAsWrong)

/-- 'gatepostlaw01.FailNone': WHATEVER THE INPUT: true; the input reads as it did. -/
def failNoneSpec : ChangeSpec := { name := "failNone", fn := fun _ => fun
  | [d1, d2] => { results := [.lit (.bool true)], args := [d1, d2] }
  | _ => none }
def failNoneRow : OpenClaim := { program := "ytnipglclecafiaadoor", sum := "b842e5bf6eb3fb007415086f6735e34be5bde969523b106a011b09677f631e4b", func := "gatepost/gatepostlaw01.FailNone", spec := "failNone", inPlace := ["internal/reflectlite.ValueOf", "(internal/reflectlite.Value).Type", "(internal/reflectlite.Value).IsNil", "internal/reflectlite.TypeOf", "(internal/reflectlite.Value).Elem", "(internal/reflectlite.Value).Set"], unfollowed := true, recurses := true, named := ["errors.errorType"], apart := false, laid := [("errors.errorType", laid_errors_errorType)] }
def FailNoneSaid : Prop := failNoneRow.holds Tryd.pinned (OpenSpec.ofChange failNoneSpec)

/-- ITS FALSE NEIGHBOUR: 'it returns false'. Refute it at one input. -/
def failNoneWrong : ChangeSpec := { name := "failNone", fn := fun _ => fun
  | [d1, d2] => { results := [.lit (.bool false)], args := [d1, d2] }
  | _ => none }
def FailNoneWrongFalsely : Prop := failNoneRow.holds Tryd.pinned (OpenSpec.ofChange failNoneWrong)

/-- 'gatepostlaw01.FailApart': WHATEVER THE INPUT: true; the input reads as it did. -/
def failApartSpec : ChangeSpec := { name := "failApart", fn := fun _ => fun
  | [d1, d2, d3] => { results := [.lit (.bool true)], args := [d1, d2, d3] }
  | _ => none }
def failApartRow : OpenClaim := { program := "ytnipglclecafiaadoor", sum := "b842e5bf6eb3fb007415086f6735e34be5bde969523b106a011b09677f631e4b", func := "gatepost/gatepostlaw01.FailApart", spec := "failApart", inPlace := ["internal/reflectlite.ValueOf", "(internal/reflectlite.Value).Type", "(internal/reflectlite.Value).IsNil", "internal/reflectlite.TypeOf", "(internal/reflectlite.Value).Elem", "(internal/reflectlite.Value).Set"], unfollowed := true, recurses := true, named := ["errors.errorType"], apart := false, laid := [("errors.errorType", laid_errors_errorType)] }
def FailApartSaid : Prop := failApartRow.holds Tryd.pinned (OpenSpec.ofChange failApartSpec)

/-- ITS FALSE NEIGHBOUR: 'it returns false'. Refute it at one input. -/
def failApartWrong : ChangeSpec := { name := "failApart", fn := fun _ => fun
  | [d1, d2, d3] => { results := [.lit (.bool false)], args := [d1, d2, d3] }
  | _ => none }
def FailApartWrongFalsely : Prop := failApartRow.holds Tryd.pinned (OpenSpec.ofChange failApartWrong)

/- THE SECOND FORM. 'bulk': how many values and letters a reading holds, each counted each time it is reached (what is shared counts as often as it is met; a slice's spare places count too). A statement '..UptoSaid' is the law's where the arguments, and the package variables that the reading takes, are together of bulk at most 1048576: NARROWER than '..Said'. Prove '..Said' where nothing that the law and all that it calls make is longer than what came in: it says more and counts as full. Else prove '..UptoSaid'. A law counts once. -/
mutual
def uptoBulk {H : Type} : DataW H → Nat
  | .lit (.string bytes) => bytes.length + 1
  | .lit _ => 1
  | .nil => 1
  | .ptr d => uptoBulk d + 1
  | .slice elems spare => uptoBulkAll elems + uptoBulkAll spare + 1
  | .agg parts => uptoBulkAll parts + 1
  | .iface _ d => uptoBulk d + 1
  | .map entries => uptoBulkEntries entries + 1
  | .held _ => 1
def uptoBulkAll {H : Type} : List (DataW H) → Nat
  | [] => 0
  | d :: r => uptoBulk d + uptoBulkAll r
def uptoBulkEntries {H : Type} : List (Lit × DataW H) → Nat
  | [] => 0
  | x :: r => uptoBulkEntry x + uptoBulkEntries r
def uptoBulkEntry {H : Type} : Lit × DataW H → Nat
  | (.string bytes, d) => bytes.length + uptoBulk d + 1
  | (_, d) => uptoBulk d + 1
 end
def uptoSmall : (H : Type) → List (DataW H) → Bool := fun _ ds => decide (uptoBulkAll ds ≤ 1048576)
def OpenSpec.upto (s : _root_.Go.ChangeSpec) : _root_.Go.OpenSpec := { _root_.Go.OpenSpec.ofChange s with cond := some uptoSmall }

/-- 'gatepostlaw01.FailTells', WHERE WHAT IT READS IS OF BULK AT MOST 1048576: true; the input reads as it did. -/
def failTellsUptoRow : OpenClaim := { program := "ytnipglclecafiaadoor", sum := "b842e5bf6eb3fb007415086f6735e34be5bde969523b106a011b09677f631e4b", func := "gatepost/gatepostlaw01.FailTells", spec := "failTells", inPlace := ["internal/reflectlite.ValueOf", "(internal/reflectlite.Value).Type", "(internal/reflectlite.Value).IsNil", "internal/reflectlite.TypeOf", "(internal/reflectlite.Value).Elem", "(internal/reflectlite.Value).Set"], unfollowed := true, recurses := true, named := ["errors.errorType"], apart := false, laid := [("errors.errorType", laid_errors_errorType)], narrowed := true }
def FailTellsUptoSaid : Prop := failTellsUptoRow.holds Tryd.pinned (OpenSpec.upto failTellsSpec)

/-- 'gatepostlaw01.FailIs', WHERE WHAT IT READS IS OF BULK AT MOST 1048576: true; the input reads as it did. -/
def failIsUptoRow : OpenClaim := { program := "ytnipglclecafiaadoor", sum := "b842e5bf6eb3fb007415086f6735e34be5bde969523b106a011b09677f631e4b", func := "gatepost/gatepostlaw01.FailIs", spec := "failIs", inPlace := ["internal/reflectlite.ValueOf", "(internal/reflectlite.Value).Type", "(internal/reflectlite.Value).IsNil", "internal/reflectlite.TypeOf", "(internal/reflectlite.Value).Elem", "(internal/reflectlite.Value).Set"], unfollowed := true, recurses := true, named := ["errors.errorType"], apart := false, laid := [("errors.errorType", laid_errors_errorType)], narrowed := true }
def FailIsUptoSaid : Prop := failIsUptoRow.holds Tryd.pinned (OpenSpec.upto failIsSpec)

/-- 'gatepostlaw01.FailAs', WHERE WHAT IT READS IS OF BULK AT MOST 1048576: true; the input reads as it did. -/
def failAsUptoRow : OpenClaim := { program := "ytnipglclecafiaadoor", sum := "b842e5bf6eb3fb007415086f6735e34be5bde969523b106a011b09677f631e4b", func := "gatepost/gatepostlaw01.FailAs", spec := "failAs", inPlace := ["internal/reflectlite.ValueOf", "(internal/reflectlite.Value).Type", "(internal/reflectlite.Value).IsNil", "internal/reflectlite.TypeOf", "(internal/reflectlite.Value).Elem", "(internal/reflectlite.Value).Set"], unfollowed := true, recurses := true, named := ["errors.errorType"], apart := false, laid := [("errors.errorType", laid_errors_errorType)], narrowed := true }
def FailAsUptoSaid : Prop := failAsUptoRow.holds Tryd.pinned (OpenSpec.upto failAsSpec)

/-- 'gatepostlaw01.FailNone', WHERE WHAT IT READS IS OF BULK AT MOST 1048576: true; the input reads as it did. -/
def failNoneUptoRow : OpenClaim := { program := "ytnipglclecafiaadoor", sum := "b842e5bf6eb3fb007415086f6735e34be5bde969523b106a011b09677f631e4b", func := "gatepost/gatepostlaw01.FailNone", spec := "failNone", inPlace := ["internal/reflectlite.ValueOf", "(internal/reflectlite.Value).Type", "(internal/reflectlite.Value).IsNil", "internal/reflectlite.TypeOf", "(internal/reflectlite.Value).Elem", "(internal/reflectlite.Value).Set"], unfollowed := true, recurses := true, named := ["errors.errorType"], apart := false, laid := [("errors.errorType", laid_errors_errorType)], narrowed := true }
def FailNoneUptoSaid : Prop := failNoneUptoRow.holds Tryd.pinned (OpenSpec.upto failNoneSpec)

/-- 'gatepostlaw01.FailApart', WHERE WHAT IT READS IS OF BULK AT MOST 1048576: true; the input reads as it did. -/
def failApartUptoRow : OpenClaim := { program := "ytnipglclecafiaadoor", sum := "b842e5bf6eb3fb007415086f6735e34be5bde969523b106a011b09677f631e4b", func := "gatepost/gatepostlaw01.FailApart", spec := "failApart", inPlace := ["internal/reflectlite.ValueOf", "(internal/reflectlite.Value).Type", "(internal/reflectlite.Value).IsNil", "internal/reflectlite.TypeOf", "(internal/reflectlite.Value).Elem", "(internal/reflectlite.Value).Set"], unfollowed := true, recurses := true, named := ["errors.errorType"], apart := false, laid := [("errors.errorType", laid_errors_errorType)], narrowed := true }
def FailApartUptoSaid : Prop := failApartUptoRow.holds Tryd.pinned (OpenSpec.upto failApartSpec)

end Rows
end Go.Proofs.YtnipglclecafiaaDoor
