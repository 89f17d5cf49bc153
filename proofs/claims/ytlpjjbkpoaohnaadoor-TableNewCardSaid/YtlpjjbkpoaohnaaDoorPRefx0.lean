-- Written by wip/myprint.py, a program of this session, out of the translation. Lean checks it.
import Derived.Test.YtlpjjbkpoaohnaaDoorProg
import Derived.Below
import Derived.Deep.Draws
import Derived.Deep.AppendLies
import Derived.Maps.AppendAt
import Derived.OwnWalk
import Derived.Laws.BytesArg
import Derived.Laws.MakeOwn
import Derived.Laws.OwnMore
import Derived.Deep.OwnRows
import Derived.Tactics
import Derived.Lib.ConvBytes
import Derived.Laws.Slices
import Derived.WalkKit
import Derived.KernelRfl
import Derived.RowKit3
import Derived.Deep.LoopGhost
import Derived.Deep.QuietTactic
import Derived.BigQuiet
import Derived.WideLaws
import Derived.Deep.DeepCutAuto
import Derived.Deep.CutBlock
import Derived.Deep.RegionHeld3
import Derived.Laws.Rows
import Derived.Lib.AppendStr
import Derived.ArgAppend
import Derived.Laws.IdiomCopy
import Derived.OrdersHeld
import Derived.Laws.BitsLemmas
import Derived.RowKit
import Derived.Test.YtlpjjbkpoaohnaaDoorWWords
import Derived.Test.YtlpjjbkpoaohnaaDoorWLast
import Derived.Test.YtlpjjbkpoaohnaaDoorWTab
import Derived.Test.YtlpjjbkpoaohnaaDoorWFour
import Derived.Test.YtlpjjbkpoaohnaaDoorWQPut
import Derived.Test.YtlpjjbkpoaohnaaDoorWApart
import Derived.Test.YtlpjjbkpoaohnaaDoorWArr
import Derived.Test.YtlpjjbkpoaohnaaDoorWZeros
import Derived.Test.YtlpjjbkpoaohnaaDoorWFoot
import Derived.Test.YtlpjjbkpoaohnaaDoorWKept
import Derived.Test.YtlpjjbkpoaohnaaDoorWShare
import Derived.Test.YtlpjjbkpoaohnaaDoorWN
import Derived.Test.YtlpjjbkpoaohnaaDoorWFootNe
import Derived.Test.YtlpjjbkpoaohnaaDoorWAt
import Derived.Test.YtlpjjbkpoaohnaaDoorWEqStruct
import Derived.Test.YtlpjjbkpoaohnaaDoorWRepsOne
import Derived.Test.YtlpjjbkpoaohnaaDoorWInv
import Derived.Test.YtlpjjbkpoaohnaaDoorWInvWords
import Derived.Test.YtlpjjbkpoaohnaaDoorWGuard
import Derived.Test.YtlpjjbkpoaohnaaDoorWNEv
import Derived.Test.YtlpjjbkpoaohnaaDoorWMore
namespace Go.Proofs.YtlpjjbkpoaohnaaDoor.PRef
open Go.RowKit Go.Proofs.YtlpjjbkpoaohnaaDoorW.PrintWords Go.Proofs.YtlpjjbkpoaohnaaDoorW.PrintLast Go.Proofs.YtlpjjbkpoaohnaaDoorW.PrintMore
open Go.Proofs.YtlpjjbkpoaohnaaDoor
attribute [local go_sem] max2_int min2_int max_two min_two max_three min_three max_four min_four   -- for this text's walks alone
set_option linter.unusedVariables false
set_option linter.unusedSimpArgs false



def errW : Option Int → Value
  | none => .nilIface
  | some c => .iface 0 (.int .i64 c)
theorem errW_none : errW none = .nilIface := rfl
theorem errW_some (c : Int) : errW (some c) = .iface 0 (.int .i64 c) := rfl

theorem info3 : (Tryd.prog.info? 3).map (fun i => (i.zero, i.size, i.bytes)) = some (some (.int .i64 0), 1, 8) := by kernel_rfl
theorem info22 : (Tryd.prog.info? 22).map (fun i => (i.zero, i.size, i.bytes)) = some (some (.int .u64 0), 1, 8) := by kernel_rfl
-- the values' own types

end Go.Proofs.YtlpjjbkpoaohnaaDoor.PRef
