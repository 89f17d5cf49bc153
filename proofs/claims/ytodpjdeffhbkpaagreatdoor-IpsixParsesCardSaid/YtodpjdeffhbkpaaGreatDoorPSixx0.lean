-- Written by wip/myprint.py, a program of this session, out of the translation. Lean checks it.
import Derived.Test.YtodpjdeffhbkpaaGreatDoorProg
import Derived.Below
import Derived.Deep.Draws
import Derived.Deep.AppendLies
import Derived.Maps.AppendAt
import Derived.OwnWalk
import Derived.Laws.BytesArg
import Derived.Laws.MakeOwn
import Derived.Laws.OwnMore
import Derived.Deep.OwnRows
import Derived.Tactics
import Derived.Lib.ConvBytes
import Derived.Laws.Slices
import Derived.WalkKit
import Derived.KernelRfl
import Derived.RowKit3
import Derived.Deep.LoopGhost
import Derived.Deep.QuietTactic
import Derived.BigQuiet
import Derived.WideLaws
import Derived.Deep.DeepCutAuto
import Derived.Deep.CutBlock
import Derived.Deep.RegionHeld3
import Derived.Laws.Rows
import Derived.Lib.AppendStr
import Derived.ArgAppend
import Derived.Laws.IdiomCopy
import Derived.OrdersHeld
import Derived.Laws.BitsLemmas
import Derived.RowKit
import Derived.Test.YtodpjdeffhbkpaaGreatDoorWWords
import Derived.Test.YtodpjdeffhbkpaaGreatDoorWLast
import Derived.Test.YtodpjdeffhbkpaaGreatDoorWTab
import Derived.Test.YtodpjdeffhbkpaaGreatDoorWFour
import Derived.Test.YtodpjdeffhbkpaaGreatDoorWQPut
import Derived.Test.YtodpjdeffhbkpaaGreatDoorWApart
import Derived.Test.YtodpjdeffhbkpaaGreatDoorWArr
import Derived.Test.YtodpjdeffhbkpaaGreatDoorWZeros
import Derived.Test.YtodpjdeffhbkpaaGreatDoorWFoot
import Derived.Test.YtodpjdeffhbkpaaGreatDoorWKept
import Derived.Test.YtodpjdeffhbkpaaGreatDoorWShare
import Derived.Test.YtodpjdeffhbkpaaGreatDoorWN
import Derived.Test.YtodpjdeffhbkpaaGreatDoorWFootNe
import Derived.Test.YtodpjdeffhbkpaaGreatDoorWAt
import Derived.Test.YtodpjdeffhbkpaaGreatDoorWEqStruct
import Derived.Test.YtodpjdeffhbkpaaGreatDoorWRepsOne
import Derived.Test.YtodpjdeffhbkpaaGreatDoorWInv
import Derived.Test.YtodpjdeffhbkpaaGreatDoorWInvWords
import Derived.Test.YtodpjdeffhbkpaaGreatDoorWGuard
import Derived.Test.YtodpjdeffhbkpaaGreatDoorWNEv
import Derived.Test.YtodpjdeffhbkpaaGreatDoorWMore
namespace Go.Proofs.YtodpjdeffhbkpaaGreatDoor.PSix
open Go.RowKit Go.Proofs.YtodpjdeffhbkpaaGreatDoorW.PrintWords Go.Proofs.YtodpjdeffhbkpaaGreatDoorW.PrintLast Go.Proofs.YtodpjdeffhbkpaaGreatDoorW.PrintMore
open Go.Proofs.YtodpjdeffhbkpaaGreatDoor
attribute [local go_sem] max2_int min2_int max_two min_two max_three min_three max_four min_four   -- for this text's walks alone
set_option linter.unusedVariables false
set_option linter.unusedSimpArgs false



def errW : Option Int → Value
  | none => .nilIface
  | some c => .iface 0 (.int .i64 c)
theorem errW_none : errW none = .nilIface := rfl
theorem errW_some (c : Int) : errW (some c) = .iface 0 (.int .i64 c) := rfl

theorem info9 : (Tryz.prog.info? 9).map (fun i => (i.zero, i.size, i.bytes)) = some (some (.string ⟨#[]⟩), 1, 16) := by kernel_rfl
theorem info22 : (Tryz.prog.info? 22).map (fun i => (i.zero, i.size, i.bytes)) = some (some (.int .u16 0), 1, 2) := by kernel_rfl
-- the values' own types

end Go.Proofs.YtodpjdeffhbkpaaGreatDoor.PSix
