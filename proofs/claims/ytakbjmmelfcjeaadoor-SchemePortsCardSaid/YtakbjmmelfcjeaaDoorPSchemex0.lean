-- Written by wip/myprint.py, a program of this session, out of the translation. Lean checks it.
import Derived.Test.YtakbjmmelfcjeaaDoorProg
import Derived.Below
import Derived.Deep.Draws
import Derived.Deep.AppendLies
import Derived.Maps.AppendAt
import Derived.OwnWalk
import Derived.Laws.BytesArg
import Derived.Laws.MakeOwn
import Derived.Laws.OwnMore
import Derived.Deep.OwnRows
import Derived.Tactics
import Derived.Lib.ConvBytes
import Derived.Laws.Slices
import Derived.WalkKit
import Derived.KernelRfl
import Derived.RowKit3
import Derived.Deep.LoopGhost
import Derived.Deep.QuietTactic
import Derived.BigQuiet
import Derived.WideLaws
import Derived.Deep.DeepCutAuto
import Derived.Deep.CutBlock
import Derived.Deep.RegionHeld3
import Derived.Laws.Rows
import Derived.Lib.AppendStr
import Derived.ArgAppend
import Derived.Laws.IdiomCopy
import Derived.OrdersHeld
import Derived.Laws.BitsLemmas
import Derived.RowKit
import Derived.Test.YtakbjmmelfcjeaaDoorWWords
import Derived.Test.YtakbjmmelfcjeaaDoorWLast
import Derived.Test.YtakbjmmelfcjeaaDoorWTab
import Derived.Test.YtakbjmmelfcjeaaDoorWFour
import Derived.Test.YtakbjmmelfcjeaaDoorWQPut
import Derived.Test.YtakbjmmelfcjeaaDoorWApart
import Derived.Test.YtakbjmmelfcjeaaDoorWArr
import Derived.Test.YtakbjmmelfcjeaaDoorWZeros
import Derived.Test.YtakbjmmelfcjeaaDoorWFoot
import Derived.Test.YtakbjmmelfcjeaaDoorWKept
import Derived.Test.YtakbjmmelfcjeaaDoorWShare
import Derived.Test.YtakbjmmelfcjeaaDoorWN
import Derived.Test.YtakbjmmelfcjeaaDoorWFootNe
import Derived.Test.YtakbjmmelfcjeaaDoorWAt
import Derived.Test.YtakbjmmelfcjeaaDoorWEqStruct
import Derived.Test.YtakbjmmelfcjeaaDoorWRepsOne
import Derived.Test.YtakbjmmelfcjeaaDoorWInv
import Derived.Test.YtakbjmmelfcjeaaDoorWInvWords
import Derived.Test.YtakbjmmelfcjeaaDoorWGuard
import Derived.Test.YtakbjmmelfcjeaaDoorWNEv
import Derived.Test.YtakbjmmelfcjeaaDoorWMore
namespace Go.Proofs.YtakbjmmelfcjeaaDoor.PScheme
open Go.RowKit Go.Proofs.YtakbjmmelfcjeaaDoorW.PrintWords Go.Proofs.YtakbjmmelfcjeaaDoorW.PrintLast Go.Proofs.YtakbjmmelfcjeaaDoorW.PrintMore
open Go.Proofs.YtakbjmmelfcjeaaDoor
attribute [local go_sem] max2_int min2_int max_two min_two max_three min_three max_four min_four   -- for this text's walks alone
set_option linter.unusedVariables false
set_option linter.unusedSimpArgs false



def errW : Option Int → Value
  | none => .nilIface
  | some c => .iface 0 (.int .i64 c)
theorem errW_none : errW none = .nilIface := rfl
theorem errW_some (c : Int) : errW (some c) = .iface 0 (.int .i64 c) := rfl

-- the values' own types

end Go.Proofs.YtakbjmmelfcjeaaDoor.PScheme
