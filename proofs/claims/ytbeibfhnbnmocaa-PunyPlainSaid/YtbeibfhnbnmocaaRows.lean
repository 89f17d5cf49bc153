/-
  No cell of these rows narrows 'for every input' (looked for: loops, veiled, ifaces, maps, wideKeys, modest, calm, conditions, laid).
  DERIVED. THE GIVEN ROWS OF THIS SEAT. 3 by the template 'for every input the law returns true; each argument reads behind the call as it read before'; 0 by the template 'total and deterministic' (their statements: YtbeibfhnbnmocaaTotals.lean).
  GIVEN WITH THE SEED: the statements are not yours to turn. If you find one false, say at which input.
  Laid BY PROGRAM, IN A SANDBOX (cutbox-rows.mjs): the forced cells as the released guide's own fill.sh prints them over the translation b7a353e113a16eaf… (all of the seat's roots in one cut). By AI agents, Wed Nov 11 2026. No macro, syntax, notation, axiom, sorry.
-/
import Derived.Test.YtbeibfhnbnmocaaChecked
import GoSem.Claim
import GoSem.ClaimJoined
import GoSem.ClaimMapViews
import Derived.JoinedTies
import Derived.KernelRfl
namespace Go.Proofs.Ytbeibfhnbnmocaa
/- THE CELL 'sum', in the pinned program and in every row, IS THE sha256 OF THE DUMP (.gsa) THAT YtbeibfhnbnmocaaProg.lean LOADS. Nothing in Lean hashes anything: it is a label: what it is worth is what the hold of that sum in a sandbox is worth. -/
noncomputable def Try.pinned : Pinned := { name := "ytbeibfhnbnmocaa", sum := "b7a353e113a16eaf00eed8f49454b4ed313095c466baf39eef6d25d7e98f3786", checked := Try.checked }
namespace Rows
def none {H : Type} : Left H := { results := [], args := [] }

/-- 'gatepostlaw04.PunyBack': WHATEVER THE INPUT: true; the input reads as it did. -/
def punyBackSpec : ChangeSpec := { name := "punyBack", fn := fun _ => fun
  | [d] => { results := [.lit (.bool true)], args := [d] }
  | _ => none }
def punyBackRow : OpenClaim := { program := "ytbeibfhnbnmocaa", sum := "b7a353e113a16eaf00eed8f49454b4ed313095c466baf39eef6d25d7e98f3786", func := "gatepost/gatepostlaw04.PunyBack", spec := "punyBack", inPlace := ["internal/abi.NoEscape", "internal/bytealg.IndexByteString", "slices.overlaps[rune]", "internal/reflectlite.TypeOf"], unfollowed := true, recurses := true, apart := false }
def PunyBackSaid : Prop := punyBackRow.holds Try.pinned (OpenSpec.ofChange punyBackSpec)

/-- ITS FALSE NEIGHBOUR: 'it returns false'. Refute it at one input. -/
def punyBackWrong : ChangeSpec := { name := "punyBack", fn := fun _ => fun
  | [d] => { results := [.lit (.bool false)], args := [d] }
  | _ => none }
def PunyBackWrongFalsely : Prop := punyBackRow.holds Try.pinned (OpenSpec.ofChange punyBackWrong)

/-- 'gatepostlaw04.PunyOnce': WHATEVER THE INPUT: true; the input reads as it did. -/
def punyOnceSpec : ChangeSpec := { name := "punyOnce", fn := fun _ => fun
  | [d] => { results := [.lit (.bool true)], args := [d] }
  | _ => none }
def punyOnceRow : OpenClaim := { program := "ytbeibfhnbnmocaa", sum := "b7a353e113a16eaf00eed8f49454b4ed313095c466baf39eef6d25d7e98f3786", func := "gatepost/gatepostlaw04.PunyOnce", spec := "punyOnce", inPlace := ["internal/abi.NoEscape", "internal/bytealg.IndexByteString", "slices.overlaps[rune]", "internal/reflectlite.TypeOf"], unfollowed := true, recurses := true, apart := false }
def PunyOnceSaid : Prop := punyOnceRow.holds Try.pinned (OpenSpec.ofChange punyOnceSpec)

/-- ITS FALSE NEIGHBOUR: 'it returns false'. Refute it at one input. -/
def punyOnceWrong : ChangeSpec := { name := "punyOnce", fn := fun _ => fun
  | [d] => { results := [.lit (.bool false)], args := [d] }
  | _ => none }
def PunyOnceWrongFalsely : Prop := punyOnceRow.holds Try.pinned (OpenSpec.ofChange punyOnceWrong)

/-- 'gatepostlaw04.PunyPlain': WHATEVER THE INPUT: true; the input reads as it did. -/
def punyPlainSpec : ChangeSpec := { name := "punyPlain", fn := fun _ => fun
  | [d] => { results := [.lit (.bool true)], args := [d] }
  | _ => none }
def punyPlainRow : OpenClaim := { program := "ytbeibfhnbnmocaa", sum := "b7a353e113a16eaf00eed8f49454b4ed313095c466baf39eef6d25d7e98f3786", func := "gatepost/gatepostlaw04.PunyPlain", spec := "punyPlain", inPlace := ["internal/abi.NoEscape", "internal/bytealg.IndexByteString", "slices.overlaps[rune]", "internal/reflectlite.TypeOf"], unfollowed := true, recurses := true, apart := false }
def PunyPlainSaid : Prop := punyPlainRow.holds Try.pinned (OpenSpec.ofChange punyPlainSpec)

/-- ITS FALSE NEIGHBOUR: 'it returns false'. Refute it at one input. -/
def punyPlainWrong : ChangeSpec := { name := "punyPlain", fn := fun _ => fun
  | [d] => { results := [.lit (.bool false)], args := [d] }
  | _ => none }
def PunyPlainWrongFalsely : Prop := punyPlainRow.holds Try.pinned (OpenSpec.ofChange punyPlainWrong)

/- THE SECOND FORM. 'bulk': how many values and letters a reading holds, each counted each time it is reached (what is shared counts as often as it is met; a slice's spare places count too). A statement '..UptoSaid' is the law's where the arguments, and the package variables that the reading takes, are together of bulk at most 1048576: NARROWER than '..Said'. Prove '..Said' where nothing that the law and all that it calls make is longer than what came in: it says more and counts as full. Else prove '..UptoSaid'. A law counts once. -/
mutual
def uptoBulk {H : Type} : DataW H → Nat
  | .lit (.string bytes) => bytes.length + 1
  | .lit _ => 1
  | .nil => 1
  | .ptr d => uptoBulk d + 1
  | .slice elems spare => uptoBulkAll elems + uptoBulkAll spare + 1
  | .agg parts => uptoBulkAll parts + 1
  | .iface _ d => uptoBulk d + 1
  | .map entries => uptoBulkEntries entries + 1
  | .held _ => 1
def uptoBulkAll {H : Type} : List (DataW H) → Nat
  | [] => 0
  | d :: r => uptoBulk d + uptoBulkAll r
def uptoBulkEntries {H : Type} : List (Lit × DataW H) → Nat
  | [] => 0
  | x :: r => uptoBulkEntry x + uptoBulkEntries r
def uptoBulkEntry {H : Type} : Lit × DataW H → Nat
  | (.string bytes, d) => bytes.length + uptoBulk d + 1
  | (_, d) => uptoBulk d + 1
 end
def uptoSmall : (H : Type) → List (DataW H) → Bool := fun _ ds => decide (uptoBulkAll ds ≤ 1048576)
def OpenSpec.upto (s : _root_.Go.ChangeSpec) : _root_.Go.OpenSpec := { _root_.Go.OpenSpec.ofChange s with cond := some uptoSmall }

/-- 'gatepostlaw04.PunyBack', WHERE WHAT IT READS IS OF BULK AT MOST 1048576: true; the input reads as it did. -/
def punyBackUptoRow : OpenClaim := { program := "ytbeibfhnbnmocaa", sum := "b7a353e113a16eaf00eed8f49454b4ed313095c466baf39eef6d25d7e98f3786", func := "gatepost/gatepostlaw04.PunyBack", spec := "punyBack", inPlace := ["internal/abi.NoEscape", "internal/bytealg.IndexByteString", "slices.overlaps[rune]", "internal/reflectlite.TypeOf"], unfollowed := true, recurses := true, apart := false, narrowed := true }
def PunyBackUptoSaid : Prop := punyBackUptoRow.holds Try.pinned (OpenSpec.upto punyBackSpec)

/-- 'gatepostlaw04.PunyOnce', WHERE WHAT IT READS IS OF BULK AT MOST 1048576: true; the input reads as it did. -/
def punyOnceUptoRow : OpenClaim := { program := "ytbeibfhnbnmocaa", sum := "b7a353e113a16eaf00eed8f49454b4ed313095c466baf39eef6d25d7e98f3786", func := "gatepost/gatepostlaw04.PunyOnce", spec := "punyOnce", inPlace := ["internal/abi.NoEscape", "internal/bytealg.IndexByteString", "slices.overlaps[rune]", "internal/reflectlite.TypeOf"], unfollowed := true, recurses := true, apart := false, narrowed := true }
def PunyOnceUptoSaid : Prop := punyOnceUptoRow.holds Try.pinned (OpenSpec.upto punyOnceSpec)

/-- 'gatepostlaw04.PunyPlain', WHERE WHAT IT READS IS OF BULK AT MOST 1048576: true; the input reads as it did. -/
def punyPlainUptoRow : OpenClaim := { program := "ytbeibfhnbnmocaa", sum := "b7a353e113a16eaf00eed8f49454b4ed313095c466baf39eef6d25d7e98f3786", func := "gatepost/gatepostlaw04.PunyPlain", spec := "punyPlain", inPlace := ["internal/abi.NoEscape", "internal/bytealg.IndexByteString", "slices.overlaps[rune]", "internal/reflectlite.TypeOf"], unfollowed := true, recurses := true, apart := false, narrowed := true }
def PunyPlainUptoSaid : Prop := punyPlainUptoRow.holds Try.pinned (OpenSpec.upto punyPlainSpec)

end Rows
end Go.Proofs.Ytbeibfhnbnmocaa
