/-
  No cell of these rows narrows 'for every input' (looked for: loops, veiled, ifaces, maps, wideKeys, modest, calm, conditions, laid).
  DERIVED. THE GIVEN ROWS OF THIS SEAT. 4 by the template 'for every input the law returns true; each argument reads behind the call as it read before'; 0 by the template 'total and deterministic' (their statements: YtjnghgalniapjaaTotals.lean).
  GIVEN WITH THE SEED: the statements are not yours to turn. If you find one false, say at which input.
  Laid BY PROGRAM, IN A SANDBOX (cutbox-rows.mjs): the forced cells as the released guide's own fill.sh prints them over the translation 480e7710ffa34cfb… (all of the seat's roots in one cut). By AI agents, Wed Nov 11 2026. No macro, syntax, notation, axiom, sorry.
-/
import Derived.Test.YtjnghgalniapjaaChecked
import GoSem.Claim
import GoSem.ClaimJoined
import GoSem.ClaimMapViews
import Derived.JoinedTies
import Derived.KernelRfl
namespace Go.Proofs.Ytjnghgalniapjaa
/- THE CELL 'sum', in the pinned program and in every row, IS THE sha256 OF THE DUMP (.gsa) THAT YtjnghgalniapjaaProg.lean LOADS. Nothing in Lean hashes anything: it is a label: what it is worth is what the hold of that sum in a sandbox is worth. -/
noncomputable def Try.pinned : Pinned := { name := "ytjnghgalniapjaa", sum := "480e7710ffa34cfb1a0b55db61b364d3907d94ffb826880ff9e5224cefc83520", checked := Try.checked }
namespace Rows
def none {H : Type} : Left H := { results := [], args := [] }

/-- 'gatepostlaw21.ClockActs': WHATEVER THE INPUT: true; the input reads as it did. -/
def clockActsSpec : ChangeSpec := { name := "clockActs", fn := fun _ => fun
  | [d1, d2] => { results := [.lit (.bool true)], args := [d1, d2] }
  | _ => none }
def clockActsRow : OpenClaim := { program := "ytjnghgalniapjaa", sum := "480e7710ffa34cfb1a0b55db61b364d3907d94ffb826880ff9e5224cefc83520", func := "gatepost/gatepostlaw21.ClockActs", spec := "clockActs", inPlace := ["internal/reflectlite.TypeOf"], unfollowed := true, recurses := true, apart := false }
def ClockActsSaid : Prop := clockActsRow.holds Try.pinned (OpenSpec.ofChange clockActsSpec)

/-- ITS FALSE NEIGHBOUR: 'it returns false'. Refute it at one input. -/
def clockActsWrong : ChangeSpec := { name := "clockActs", fn := fun _ => fun
  | [d1, d2] => { results := [.lit (.bool false)], args := [d1, d2] }
  | _ => none }
def ClockActsWrongFalsely : Prop := clockActsRow.holds Try.pinned (OpenSpec.ofChange clockActsWrong)

/-- 'gatepostlaw21.ClockTrue': WHATEVER THE INPUT: true; the input reads as it did. -/
def clockTrueSpec : ChangeSpec := { name := "clockTrue", fn := fun _ => fun
  | [d1, d2] => { results := [.lit (.bool true)], args := [d1, d2] }
  | _ => none }
def clockTrueRow : OpenClaim := { program := "ytjnghgalniapjaa", sum := "480e7710ffa34cfb1a0b55db61b364d3907d94ffb826880ff9e5224cefc83520", func := "gatepost/gatepostlaw21.ClockTrue", spec := "clockTrue", inPlace := ["internal/reflectlite.TypeOf"], unfollowed := true, recurses := true, apart := false }
def ClockTrueSaid : Prop := clockTrueRow.holds Try.pinned (OpenSpec.ofChange clockTrueSpec)

/-- ITS FALSE NEIGHBOUR: 'it returns false'. Refute it at one input. -/
def clockTrueWrong : ChangeSpec := { name := "clockTrue", fn := fun _ => fun
  | [d1, d2] => { results := [.lit (.bool false)], args := [d1, d2] }
  | _ => none }
def ClockTrueWrongFalsely : Prop := clockTrueRow.holds Try.pinned (OpenSpec.ofChange clockTrueWrong)

/-- 'gatepostlaw21.ClockKeeps': WHATEVER THE INPUT: true; the input reads as it did. -/
def clockKeepsSpec : ChangeSpec := { name := "clockKeeps", fn := fun _ => fun
  | [d] => { results := [.lit (.bool true)], args := [d] }
  | _ => none }
def clockKeepsRow : OpenClaim := { program := "ytjnghgalniapjaa", sum := "480e7710ffa34cfb1a0b55db61b364d3907d94ffb826880ff9e5224cefc83520", func := "gatepost/gatepostlaw21.ClockKeeps", spec := "clockKeeps", inPlace := ["internal/reflectlite.TypeOf"], unfollowed := true, recurses := true, apart := false }
def ClockKeepsSaid : Prop := clockKeepsRow.holds Try.pinned (OpenSpec.ofChange clockKeepsSpec)

/-- ITS FALSE NEIGHBOUR: 'it returns false'. Refute it at one input. -/
def clockKeepsWrong : ChangeSpec := { name := "clockKeeps", fn := fun _ => fun
  | [d] => { results := [.lit (.bool false)], args := [d] }
  | _ => none }
def ClockKeepsWrongFalsely : Prop := clockKeepsRow.holds Try.pinned (OpenSpec.ofChange clockKeepsWrong)

/-- 'gatepostlaw21.ClockNobody': WHATEVER THE INPUT: true; the input reads as it did. -/
def clockNobodySpec : ChangeSpec := { name := "clockNobody", fn := fun _ => fun
  | [d1, d2] => { results := [.lit (.bool true)], args := [d1, d2] }
  | _ => none }
def clockNobodyRow : OpenClaim := { program := "ytjnghgalniapjaa", sum := "480e7710ffa34cfb1a0b55db61b364d3907d94ffb826880ff9e5224cefc83520", func := "gatepost/gatepostlaw21.ClockNobody", spec := "clockNobody", inPlace := ["internal/reflectlite.TypeOf"], unfollowed := true, recurses := true, apart := false }
def ClockNobodySaid : Prop := clockNobodyRow.holds Try.pinned (OpenSpec.ofChange clockNobodySpec)

/-- ITS FALSE NEIGHBOUR: 'it returns false'. Refute it at one input. -/
def clockNobodyWrong : ChangeSpec := { name := "clockNobody", fn := fun _ => fun
  | [d1, d2] => { results := [.lit (.bool false)], args := [d1, d2] }
  | _ => none }
def ClockNobodyWrongFalsely : Prop := clockNobodyRow.holds Try.pinned (OpenSpec.ofChange clockNobodyWrong)

/- THE SECOND FORM. 'bulk': how many values and letters a reading holds, each counted each time it is reached (what is shared counts as often as it is met; a slice's spare places count too). A statement '..UptoSaid' is the law's where the arguments, and the package variables that the reading takes, are together of bulk at most 1048576: NARROWER than '..Said'. Prove '..Said' where nothing that the law and all that it calls make is longer than what came in: it says more and counts as full. Else prove '..UptoSaid'. A law counts once. -/
mutual
def uptoBulk {H : Type} : DataW H → Nat
  | .lit (.string bytes) => bytes.length + 1
  | .lit _ => 1
  | .nil => 1
  | .ptr d => uptoBulk d + 1
  | .slice elems spare => uptoBulkAll elems + uptoBulkAll spare + 1
  | .agg parts => uptoBulkAll parts + 1
  | .iface _ d => uptoBulk d + 1
  | .map entries => uptoBulkEntries entries + 1
  | .held _ => 1
def uptoBulkAll {H : Type} : List (DataW H) → Nat
  | [] => 0
  | d :: r => uptoBulk d + uptoBulkAll r
def uptoBulkEntries {H : Type} : List (Lit × DataW H) → Nat
  | [] => 0
  | x :: r => uptoBulkEntry x + uptoBulkEntries r
def uptoBulkEntry {H : Type} : Lit × DataW H → Nat
  | (.string bytes, d) => bytes.length + uptoBulk d + 1
  | (_, d) => uptoBulk d + 1
 end
def uptoSmall : (H : Type) → List (DataW H) → Bool := fun _ ds => decide (uptoBulkAll ds ≤ 1048576)
def OpenSpec.upto (s : _root_.Go.ChangeSpec) : _root_.Go.OpenSpec := { _root_.Go.OpenSpec.ofChange s with cond := some uptoSmall }

/-- 'gatepostlaw21.ClockActs', WHERE WHAT IT READS IS OF BULK AT MOST 1048576: true; the input reads as it did. -/
def clockActsUptoRow : OpenClaim := { program := "ytjnghgalniapjaa", sum := "480e7710ffa34cfb1a0b55db61b364d3907d94ffb826880ff9e5224cefc83520", func := "gatepost/gatepostlaw21.ClockActs", spec := "clockActs", inPlace := ["internal/reflectlite.TypeOf"], unfollowed := true, recurses := true, apart := false, narrowed := true }
def ClockActsUptoSaid : Prop := clockActsUptoRow.holds Try.pinned (OpenSpec.upto clockActsSpec)

/-- 'gatepostlaw21.ClockTrue', WHERE WHAT IT READS IS OF BULK AT MOST 1048576: true; the input reads as it did. -/
def clockTrueUptoRow : OpenClaim := { program := "ytjnghgalniapjaa", sum := "480e7710ffa34cfb1a0b55db61b364d3907d94ffb826880ff9e5224cefc83520", func := "gatepost/gatepostlaw21.ClockTrue", spec := "clockTrue", inPlace := ["internal/reflectlite.TypeOf"], unfollowed := true, recurses := true, apart := false, narrowed := true }
def ClockTrueUptoSaid : Prop := clockTrueUptoRow.holds Try.pinned (OpenSpec.upto clockTrueSpec)

/-- 'gatepostlaw21.ClockKeeps', WHERE WHAT IT READS IS OF BULK AT MOST 1048576: true; the input reads as it did. -/
def clockKeepsUptoRow : OpenClaim := { program := "ytjnghgalniapjaa", sum := "480e7710ffa34cfb1a0b55db61b364d3907d94ffb826880ff9e5224cefc83520", func := "gatepost/gatepostlaw21.ClockKeeps", spec := "clockKeeps", inPlace := ["internal/reflectlite.TypeOf"], unfollowed := true, recurses := true, apart := false, narrowed := true }
def ClockKeepsUptoSaid : Prop := clockKeepsUptoRow.holds Try.pinned (OpenSpec.upto clockKeepsSpec)

/-- 'gatepostlaw21.ClockNobody', WHERE WHAT IT READS IS OF BULK AT MOST 1048576: true; the input reads as it did. -/
def clockNobodyUptoRow : OpenClaim := { program := "ytjnghgalniapjaa", sum := "480e7710ffa34cfb1a0b55db61b364d3907d94ffb826880ff9e5224cefc83520", func := "gatepost/gatepostlaw21.ClockNobody", spec := "clockNobody", inPlace := ["internal/reflectlite.TypeOf"], unfollowed := true, recurses := true, apart := false, narrowed := true }
def ClockNobodyUptoSaid : Prop := clockNobodyUptoRow.holds Try.pinned (OpenSpec.upto clockNobodySpec)

end Rows
end Go.Proofs.Ytjnghgalniapjaa
