/-
  No cell of these rows narrows 'for every input' (looked for: loops, veiled, ifaces, maps, wideKeys, modest, calm, conditions, laid).
  DERIVED. THE GIVEN ROWS OF THIS SEAT. 5 by the template 'for every input the law returns true; each argument reads behind the call as it read before'; 0 by the template 'total and deterministic' (their statements: YtmckggnjcdpaiaaTotals.lean).
  GIVEN WITH THE SEED: the statements are not yours to turn. If you find one false, say at which input.
  Laid BY PROGRAM, IN A SANDBOX (cutbox-rows.mjs): the forced cells as the released guide's own fill.sh prints them over the translation 872b22f111ffa5f6… (all of the seat's roots in one cut). By AI agents, Wed Nov 11 2026. No macro, syntax, notation, axiom, sorry.
-/
import Derived.Test.YtmckggnjcdpaiaaChecked
import GoSem.Claim
import GoSem.ClaimJoined
import GoSem.ClaimMapViews
import Derived.JoinedTies
import Derived.KernelRfl
namespace Go.Proofs.Ytmckggnjcdpaiaa
/- THE CELL 'sum', in the pinned program and in every row, IS THE sha256 OF THE DUMP (.gsa) THAT YtmckggnjcdpaiaaProg.lean LOADS. Nothing in Lean hashes anything: it is a label: what it is worth is what the hold of that sum in a sandbox is worth. -/
noncomputable def Try.pinned : Pinned := { name := "ytmckggnjcdpaiaa", sum := "872b22f111ffa5f6ccd2805220e9962badd48b465ca3f3a95273d9cc40568cff", checked := Try.checked }
namespace Rows
def none {H : Type} : Left H := { results := [], args := [] }

/-- 'gatepostlaw16.TrieTells': WHATEVER THE INPUT: true; the input reads as it did. -/
def trieTellsSpec : ChangeSpec := { name := "trieTells", fn := fun _ => fun
  | [d1, d2, d3] => { results := [.lit (.bool true)], args := [d1, d2, d3] }
  | _ => none }
def trieTellsRow : OpenClaim := { program := "ytmckggnjcdpaiaa", sum := "872b22f111ffa5f6ccd2805220e9962badd48b465ca3f3a95273d9cc40568cff", func := "gatepost/gatepostlaw16.TrieTells", spec := "trieTells", recurses := true, apart := false }
def TrieTellsSaid : Prop := trieTellsRow.holds Try.pinned (OpenSpec.ofChange trieTellsSpec)

/-- ITS FALSE NEIGHBOUR: 'it returns false'. Refute it at one input. -/
def trieTellsWrong : ChangeSpec := { name := "trieTells", fn := fun _ => fun
  | [d1, d2, d3] => { results := [.lit (.bool false)], args := [d1, d2, d3] }
  | _ => none }
def TrieTellsWrongFalsely : Prop := trieTellsRow.holds Try.pinned (OpenSpec.ofChange trieTellsWrong)

/-- 'gatepostlaw16.TrieFew': WHATEVER THE INPUT: true; the input reads as it did. -/
def trieFewSpec : ChangeSpec := { name := "trieFew", fn := fun _ => fun
  | [d1, d2] => { results := [.lit (.bool true)], args := [d1, d2] }
  | _ => none }
def trieFewRow : OpenClaim := { program := "ytmckggnjcdpaiaa", sum := "872b22f111ffa5f6ccd2805220e9962badd48b465ca3f3a95273d9cc40568cff", func := "gatepost/gatepostlaw16.TrieFew", spec := "trieFew", recurses := true, apart := false }
def TrieFewSaid : Prop := trieFewRow.holds Try.pinned (OpenSpec.ofChange trieFewSpec)

/-- ITS FALSE NEIGHBOUR: 'it returns false'. Refute it at one input. -/
def trieFewWrong : ChangeSpec := { name := "trieFew", fn := fun _ => fun
  | [d1, d2] => { results := [.lit (.bool false)], args := [d1, d2] }
  | _ => none }
def TrieFewWrongFalsely : Prop := trieFewRow.holds Try.pinned (OpenSpec.ofChange trieFewWrong)

/-- 'gatepostlaw16.TrieTurn': WHATEVER THE INPUT: true; the input reads as it did. -/
def trieTurnSpec : ChangeSpec := { name := "trieTurn", fn := fun _ => fun
  | [d1, d2, d3] => { results := [.lit (.bool true)], args := [d1, d2, d3] }
  | _ => none }
def trieTurnRow : OpenClaim := { program := "ytmckggnjcdpaiaa", sum := "872b22f111ffa5f6ccd2805220e9962badd48b465ca3f3a95273d9cc40568cff", func := "gatepost/gatepostlaw16.TrieTurn", spec := "trieTurn", recurses := true, apart := false }
def TrieTurnSaid : Prop := trieTurnRow.holds Try.pinned (OpenSpec.ofChange trieTurnSpec)

/-- ITS FALSE NEIGHBOUR: 'it returns false'. Refute it at one input. -/
def trieTurnWrong : ChangeSpec := { name := "trieTurn", fn := fun _ => fun
  | [d1, d2, d3] => { results := [.lit (.bool false)], args := [d1, d2, d3] }
  | _ => none }
def TrieTurnWrongFalsely : Prop := trieTurnRow.holds Try.pinned (OpenSpec.ofChange trieTurnWrong)

/-- 'gatepostlaw16.TrieMore': WHATEVER THE INPUT: true; the input reads as it did. -/
def trieMoreSpec : ChangeSpec := { name := "trieMore", fn := fun _ => fun
  | [d1, d2, d3] => { results := [.lit (.bool true)], args := [d1, d2, d3] }
  | _ => none }
def trieMoreRow : OpenClaim := { program := "ytmckggnjcdpaiaa", sum := "872b22f111ffa5f6ccd2805220e9962badd48b465ca3f3a95273d9cc40568cff", func := "gatepost/gatepostlaw16.TrieMore", spec := "trieMore", recurses := true, apart := false }
def TrieMoreSaid : Prop := trieMoreRow.holds Try.pinned (OpenSpec.ofChange trieMoreSpec)

/-- ITS FALSE NEIGHBOUR: 'it returns false'. Refute it at one input. -/
def trieMoreWrong : ChangeSpec := { name := "trieMore", fn := fun _ => fun
  | [d1, d2, d3] => { results := [.lit (.bool false)], args := [d1, d2, d3] }
  | _ => none }
def TrieMoreWrongFalsely : Prop := trieMoreRow.holds Try.pinned (OpenSpec.ofChange trieMoreWrong)

/-- 'gatepostlaw16.TrieStars': WHATEVER THE INPUT: true; the input reads as it did. -/
def trieStarsSpec : ChangeSpec := { name := "trieStars", fn := fun _ => fun
  | [d1, d2, d3] => { results := [.lit (.bool true)], args := [d1, d2, d3] }
  | _ => none }
def trieStarsRow : OpenClaim := { program := "ytmckggnjcdpaiaa", sum := "872b22f111ffa5f6ccd2805220e9962badd48b465ca3f3a95273d9cc40568cff", func := "gatepost/gatepostlaw16.TrieStars", spec := "trieStars", recurses := true, apart := false }
def TrieStarsSaid : Prop := trieStarsRow.holds Try.pinned (OpenSpec.ofChange trieStarsSpec)

/-- ITS FALSE NEIGHBOUR: 'it returns false'. Refute it at one input. -/
def trieStarsWrong : ChangeSpec := { name := "trieStars", fn := fun _ => fun
  | [d1, d2, d3] => { results := [.lit (.bool false)], args := [d1, d2, d3] }
  | _ => none }
def TrieStarsWrongFalsely : Prop := trieStarsRow.holds Try.pinned (OpenSpec.ofChange trieStarsWrong)

/- THE SECOND FORM. 'bulk': how many values and letters a reading holds, each counted each time it is reached (what is shared counts as often as it is met; a slice's spare places count too). A statement '..UptoSaid' is the law's where the arguments, and the package variables that the reading takes, are together of bulk at most 1048576: NARROWER than '..Said'. Prove '..Said' where nothing that the law and all that it calls make is longer than what came in: it says more and counts as full. Else prove '..UptoSaid'. A law counts once. -/
mutual
def uptoBulk {H : Type} : DataW H → Nat
  | .lit (.string bytes) => bytes.length + 1
  | .lit _ => 1
  | .nil => 1
  | .ptr d => uptoBulk d + 1
  | .slice elems spare => uptoBulkAll elems + uptoBulkAll spare + 1
  | .agg parts => uptoBulkAll parts + 1
  | .iface _ d => uptoBulk d + 1
  | .map entries => uptoBulkEntries entries + 1
  | .held _ => 1
def uptoBulkAll {H : Type} : List (DataW H) → Nat
  | [] => 0
  | d :: r => uptoBulk d + uptoBulkAll r
def uptoBulkEntries {H : Type} : List (Lit × DataW H) → Nat
  | [] => 0
  | x :: r => uptoBulkEntry x + uptoBulkEntries r
def uptoBulkEntry {H : Type} : Lit × DataW H → Nat
  | (.string bytes, d) => bytes.length + uptoBulk d + 1
  | (_, d) => uptoBulk d + 1
 end
def uptoSmall : (H : Type) → List (DataW H) → Bool := fun _ ds => decide (uptoBulkAll ds ≤ 1048576)
def OpenSpec.upto (s : _root_.Go.ChangeSpec) : _root_.Go.OpenSpec := { _root_.Go.OpenSpec.ofChange s with cond := some uptoSmall }

/-- 'gatepostlaw16.TrieTells', WHERE WHAT IT READS IS OF BULK AT MOST 1048576: true; the input reads as it did. -/
def trieTellsUptoRow : OpenClaim := { program := "ytmckggnjcdpaiaa", sum := "872b22f111ffa5f6ccd2805220e9962badd48b465ca3f3a95273d9cc40568cff", func := "gatepost/gatepostlaw16.TrieTells", spec := "trieTells", recurses := true, apart := false, narrowed := true }
def TrieTellsUptoSaid : Prop := trieTellsUptoRow.holds Try.pinned (OpenSpec.upto trieTellsSpec)

/-- 'gatepostlaw16.TrieFew', WHERE WHAT IT READS IS OF BULK AT MOST 1048576: true; the input reads as it did. -/
def trieFewUptoRow : OpenClaim := { program := "ytmckggnjcdpaiaa", sum := "872b22f111ffa5f6ccd2805220e9962badd48b465ca3f3a95273d9cc40568cff", func := "gatepost/gatepostlaw16.TrieFew", spec := "trieFew", recurses := true, apart := false, narrowed := true }
def TrieFewUptoSaid : Prop := trieFewUptoRow.holds Try.pinned (OpenSpec.upto trieFewSpec)

/-- 'gatepostlaw16.TrieTurn', WHERE WHAT IT READS IS OF BULK AT MOST 1048576: true; the input reads as it did. -/
def trieTurnUptoRow : OpenClaim := { program := "ytmckggnjcdpaiaa", sum := "872b22f111ffa5f6ccd2805220e9962badd48b465ca3f3a95273d9cc40568cff", func := "gatepost/gatepostlaw16.TrieTurn", spec := "trieTurn", recurses := true, apart := false, narrowed := true }
def TrieTurnUptoSaid : Prop := trieTurnUptoRow.holds Try.pinned (OpenSpec.upto trieTurnSpec)

/-- 'gatepostlaw16.TrieMore', WHERE WHAT IT READS IS OF BULK AT MOST 1048576: true; the input reads as it did. -/
def trieMoreUptoRow : OpenClaim := { program := "ytmckggnjcdpaiaa", sum := "872b22f111ffa5f6ccd2805220e9962badd48b465ca3f3a95273d9cc40568cff", func := "gatepost/gatepostlaw16.TrieMore", spec := "trieMore", recurses := true, apart := false, narrowed := true }
def TrieMoreUptoSaid : Prop := trieMoreUptoRow.holds Try.pinned (OpenSpec.upto trieMoreSpec)

/-- 'gatepostlaw16.TrieStars', WHERE WHAT IT READS IS OF BULK AT MOST 1048576: true; the input reads as it did. -/
def trieStarsUptoRow : OpenClaim := { program := "ytmckggnjcdpaiaa", sum := "872b22f111ffa5f6ccd2805220e9962badd48b465ca3f3a95273d9cc40568cff", func := "gatepost/gatepostlaw16.TrieStars", spec := "trieStars", recurses := true, apart := false, narrowed := true }
def TrieStarsUptoSaid : Prop := trieStarsUptoRow.holds Try.pinned (OpenSpec.upto trieStarsSpec)

end Rows
end Go.Proofs.Ytmckggnjcdpaiaa
