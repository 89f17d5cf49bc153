-- Written by wip/myprint.py, a program of this session, out of the translation. Lean checks it.
import Derived.Test.YtakbjmmelfcjeaaProg
import Derived.Below
import Derived.Deep.Draws
import Derived.Deep.AppendLies
import Derived.Maps.AppendAt
import Derived.OwnWalk
import Derived.Laws.BytesArg
import Derived.Laws.MakeOwn
import Derived.Laws.OwnMore
import Derived.Deep.OwnRows
import Derived.Tactics
import Derived.Lib.ConvBytes
import Derived.Laws.Slices
import Derived.WalkKit
import Derived.KernelRfl
import Derived.RowKit3
import Derived.Deep.LoopGhost
import Derived.Deep.QuietTactic
import Derived.BigQuiet
import Derived.WideLaws
import Derived.Deep.DeepCutAuto
import Derived.Deep.CutBlock
import Derived.Deep.RegionHeld3
import Derived.Laws.Rows
import Derived.Lib.AppendStr
import Derived.ArgAppend
import Derived.Laws.IdiomCopy
import Derived.OrdersHeld
import Derived.Laws.BitsLemmas
import Derived.RowKit
import Derived.Test.YtakbjmmelfcjeaaWWords
import Derived.Test.YtakbjmmelfcjeaaWLast
import Derived.Test.YtakbjmmelfcjeaaWTab
import Derived.Test.YtakbjmmelfcjeaaWFour
import Derived.Test.YtakbjmmelfcjeaaWQPut
import Derived.Test.YtakbjmmelfcjeaaWApart
import Derived.Test.YtakbjmmelfcjeaaWArr
import Derived.Test.YtakbjmmelfcjeaaWZeros
import Derived.Test.YtakbjmmelfcjeaaWFoot
import Derived.Test.YtakbjmmelfcjeaaWKept
import Derived.Test.YtakbjmmelfcjeaaWShare
import Derived.Test.YtakbjmmelfcjeaaWN
import Derived.Test.YtakbjmmelfcjeaaWFootNe
import Derived.Test.YtakbjmmelfcjeaaWAt
import Derived.Test.YtakbjmmelfcjeaaWEqStruct
import Derived.Test.YtakbjmmelfcjeaaWRepsOne
import Derived.Test.YtakbjmmelfcjeaaWInv
import Derived.Test.YtakbjmmelfcjeaaWInvWords
import Derived.Test.YtakbjmmelfcjeaaWGuard
import Derived.Test.YtakbjmmelfcjeaaWNEv
import Derived.Test.YtakbjmmelfcjeaaWMore
namespace Go.Proofs.Ytakbjmmelfcjeaa.PScheme
open Go.RowKit Go.Proofs.YtakbjmmelfcjeaaW.PrintWords Go.Proofs.YtakbjmmelfcjeaaW.PrintLast Go.Proofs.YtakbjmmelfcjeaaW.PrintMore
open Go.Proofs.Ytakbjmmelfcjeaa
attribute [local go_sem] max2_int min2_int max_two min_two max_three min_three max_four min_four   -- for this text's walks alone
set_option linter.unusedVariables false
set_option linter.unusedSimpArgs false



def errW : Option Int → Value
  | none => .nilIface
  | some c => .iface 0 (.int .i64 c)
theorem errW_none : errW none = .nilIface := rfl
theorem errW_some (c : Int) : errW (some c) = .iface 0 (.int .i64 c) := rfl

theorem info5 : (Try.prog.info? 5).map (fun i => (i.zero, i.size, i.bytes)) = some (some (.int .u8 0), 1, 1) := by kernel_rfl
-- the values' own types

end Go.Proofs.Ytakbjmmelfcjeaa.PScheme
