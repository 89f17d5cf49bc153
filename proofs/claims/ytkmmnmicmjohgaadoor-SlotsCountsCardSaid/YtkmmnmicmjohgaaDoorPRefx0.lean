-- Written by wip/myprint.py, a program of this session, out of the translation. Lean checks it.
import Derived.Test.YtkmmnmicmjohgaaDoorProg
import Derived.Below
import Derived.Deep.Draws
import Derived.Deep.AppendLies
import Derived.Maps.AppendAt
import Derived.OwnWalk
import Derived.Laws.BytesArg
import Derived.Laws.MakeOwn
import Derived.Laws.OwnMore
import Derived.Deep.OwnRows
import Derived.Tactics
import Derived.Lib.ConvBytes
import Derived.Laws.Slices
import Derived.WalkKit
import Derived.KernelRfl
import Derived.RowKit3
import Derived.Deep.LoopGhost
import Derived.Deep.QuietTactic
import Derived.BigQuiet
import Derived.WideLaws
import Derived.Deep.DeepCutAuto
import Derived.Deep.CutBlock
import Derived.Deep.RegionHeld3
import Derived.Laws.Rows
import Derived.Lib.AppendStr
import Derived.ArgAppend
import Derived.Laws.IdiomCopy
import Derived.OrdersHeld
import Derived.Laws.BitsLemmas
import Derived.RowKit
import Derived.Test.YtkmmnmicmjohgaaDoorWWords
import Derived.Test.YtkmmnmicmjohgaaDoorWLast
import Derived.Test.YtkmmnmicmjohgaaDoorWTab
import Derived.Test.YtkmmnmicmjohgaaDoorWFour
import Derived.Test.YtkmmnmicmjohgaaDoorWQPut
import Derived.Test.YtkmmnmicmjohgaaDoorWApart
import Derived.Test.YtkmmnmicmjohgaaDoorWArr
import Derived.Test.YtkmmnmicmjohgaaDoorWZeros
import Derived.Test.YtkmmnmicmjohgaaDoorWFoot
import Derived.Test.YtkmmnmicmjohgaaDoorWKept
import Derived.Test.YtkmmnmicmjohgaaDoorWShare
import Derived.Test.YtkmmnmicmjohgaaDoorWN
import Derived.Test.YtkmmnmicmjohgaaDoorWFootNe
import Derived.Test.YtkmmnmicmjohgaaDoorWAt
import Derived.Test.YtkmmnmicmjohgaaDoorWEqStruct
import Derived.Test.YtkmmnmicmjohgaaDoorWRepsOne
import Derived.Test.YtkmmnmicmjohgaaDoorWInv
import Derived.Test.YtkmmnmicmjohgaaDoorWInvWords
import Derived.Test.YtkmmnmicmjohgaaDoorWGuard
import Derived.Test.YtkmmnmicmjohgaaDoorWNEv
import Derived.Test.YtkmmnmicmjohgaaDoorWMore
namespace Go.Proofs.YtkmmnmicmjohgaaDoor.PRef
open Go.RowKit Go.Proofs.YtkmmnmicmjohgaaDoorW.PrintWords Go.Proofs.YtkmmnmicmjohgaaDoorW.PrintLast Go.Proofs.YtkmmnmicmjohgaaDoorW.PrintMore
open Go.Proofs.YtkmmnmicmjohgaaDoor
attribute [local go_sem] max2_int min2_int max_two min_two max_three min_three max_four min_four   -- for this text's walks alone
set_option linter.unusedVariables false
set_option linter.unusedSimpArgs false



def errW : Option Int → Value
  | none => .nilIface
  | some c => .iface 0 (.int .i64 c)
theorem errW_none : errW none = .nilIface := rfl
theorem errW_some (c : Int) : errW (some c) = .iface 0 (.int .i64 c) := rfl

theorem info3 : (Tryd.prog.info? 3).map (fun i => (i.zero, i.size, i.bytes)) = some (some (.int .i64 0), 1, 8) := by kernel_rfl
theorem info28 : (Tryd.prog.info? 28).map (fun i => (i.zero, i.size, i.bytes)) = some (some (.int .u64 0), 1, 8) := by kernel_rfl
-- the values' own types

end Go.Proofs.YtkmmnmicmjohgaaDoor.PRef
