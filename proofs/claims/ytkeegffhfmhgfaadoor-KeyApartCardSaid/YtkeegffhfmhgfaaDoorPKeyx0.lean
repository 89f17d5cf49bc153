-- Written by wip/myprint.py, a program of this session, out of the translation. Lean checks it.
import Derived.Test.YtkeegffhfmhgfaaDoorProg
import Derived.Below
import Derived.Deep.Draws
import Derived.Deep.AppendLies
import Derived.Maps.AppendAt
import Derived.OwnWalk
import Derived.Laws.BytesArg
import Derived.Laws.MakeOwn
import Derived.Laws.OwnMore
import Derived.Deep.OwnRows
import Derived.Tactics
import Derived.Lib.ConvBytes
import Derived.Laws.Slices
import Derived.WalkKit
import Derived.KernelRfl
import Derived.RowKit3
import Derived.Deep.LoopGhost
import Derived.Deep.QuietTactic
import Derived.BigQuiet
import Derived.WideLaws
import Derived.Deep.DeepCutAuto
import Derived.Deep.CutBlock
import Derived.Deep.RegionHeld3
import Derived.Laws.Rows
import Derived.Lib.AppendStr
import Derived.ArgAppend
import Derived.Laws.IdiomCopy
import Derived.OrdersHeld
import Derived.Laws.BitsLemmas
import Derived.RowKit
import Derived.Test.YtkeegffhfmhgfaaDoorWWords
import Derived.Test.YtkeegffhfmhgfaaDoorWLast
import Derived.Test.YtkeegffhfmhgfaaDoorWTab
import Derived.Test.YtkeegffhfmhgfaaDoorWFour
import Derived.Test.YtkeegffhfmhgfaaDoorWQPut
import Derived.Test.YtkeegffhfmhgfaaDoorWApart
import Derived.Test.YtkeegffhfmhgfaaDoorWArr
import Derived.Test.YtkeegffhfmhgfaaDoorWZeros
import Derived.Test.YtkeegffhfmhgfaaDoorWFoot
import Derived.Test.YtkeegffhfmhgfaaDoorWKept
import Derived.Test.YtkeegffhfmhgfaaDoorWShare
import Derived.Test.YtkeegffhfmhgfaaDoorWN
import Derived.Test.YtkeegffhfmhgfaaDoorWFootNe
import Derived.Test.YtkeegffhfmhgfaaDoorWAt
import Derived.Test.YtkeegffhfmhgfaaDoorWEqStruct
import Derived.Test.YtkeegffhfmhgfaaDoorWRepsOne
import Derived.Test.YtkeegffhfmhgfaaDoorWInv
import Derived.Test.YtkeegffhfmhgfaaDoorWInvWords
import Derived.Test.YtkeegffhfmhgfaaDoorWGuard
import Derived.Test.YtkeegffhfmhgfaaDoorWNEv
import Derived.Test.YtkeegffhfmhgfaaDoorWMore
namespace Go.Proofs.YtkeegffhfmhgfaaDoor.PKey
open Go.RowKit Go.Proofs.YtkeegffhfmhgfaaDoorW.PrintWords Go.Proofs.YtkeegffhfmhgfaaDoorW.PrintLast Go.Proofs.YtkeegffhfmhgfaaDoorW.PrintMore
open Go.Proofs.YtkeegffhfmhgfaaDoor
attribute [local go_sem] max2_int min2_int max_two min_two max_three min_three max_four min_four   -- for this text's walks alone
set_option linter.unusedVariables false
set_option linter.unusedSimpArgs false



def errW : Option Int → Value
  | none => .nilIface
  | some c => .iface 0 (.int .i64 c)
theorem errW_none : errW none = .nilIface := rfl
theorem errW_some (c : Int) : errW (some c) = .iface 0 (.int .i64 c) := rfl

theorem info5 : (Tryd.prog.info? 5).map (fun i => (i.zero, i.size, i.bytes)) = some (some (.int .u8 0), 1, 1) := by kernel_rfl
-- the values' own types

end Go.Proofs.YtkeegffhfmhgfaaDoor.PKey
