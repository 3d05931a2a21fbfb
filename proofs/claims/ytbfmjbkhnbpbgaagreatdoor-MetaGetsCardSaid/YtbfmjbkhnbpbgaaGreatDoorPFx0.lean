-- Written by the kit's print.py for functions chosen by this session (wip/pr.sh)
import Derived.Test.YtbfmjbkhnbpbgaaGreatDoorProg
import Derived.Below
import Derived.Deep.Draws
import Derived.Deep.AppendLies
import Derived.Maps.AppendAt
import Derived.OwnWalk
import Derived.Laws.BytesArg
import Derived.Laws.MakeOwn
import Derived.Laws.OwnMore
import Derived.Deep.OwnRows
import Derived.Tactics
import Derived.Lib.ConvBytes
import Derived.Laws.Slices
import Derived.WalkKit
import Derived.KernelRfl
import Derived.RowKit3
import Derived.Deep.LoopGhost
import Derived.Deep.QuietTactic
import Derived.BigQuiet
import Derived.WideLaws
import Derived.Deep.DeepCutAuto
import Derived.Deep.CutBlock
import Derived.Deep.RegionHeld3
import Derived.Laws.Rows
import Derived.Lib.AppendStr
import Derived.ArgAppend
import Derived.Laws.IdiomCopy
import Derived.OrdersHeld
import Derived.Laws.BitsLemmas
import Derived.RowKit
import Derived.Test.YtbfmjbkhnbpbgaaGreatDoorWWords
import Derived.Test.YtbfmjbkhnbpbgaaGreatDoorWLast
import Derived.Test.YtbfmjbkhnbpbgaaGreatDoorWTab
import Derived.Test.YtbfmjbkhnbpbgaaGreatDoorWFour
import Derived.Test.YtbfmjbkhnbpbgaaGreatDoorWQPut
import Derived.Test.YtbfmjbkhnbpbgaaGreatDoorWApart
import Derived.Test.YtbfmjbkhnbpbgaaGreatDoorWArr
import Derived.Test.YtbfmjbkhnbpbgaaGreatDoorWZeros
import Derived.Test.YtbfmjbkhnbpbgaaGreatDoorWFoot
import Derived.Test.YtbfmjbkhnbpbgaaGreatDoorWKept
import Derived.Test.YtbfmjbkhnbpbgaaGreatDoorWShare
import Derived.Test.YtbfmjbkhnbpbgaaGreatDoorWN
import Derived.Test.YtbfmjbkhnbpbgaaGreatDoorWFootNe
import Derived.Test.YtbfmjbkhnbpbgaaGreatDoorWAt
import Derived.Test.YtbfmjbkhnbpbgaaGreatDoorWEqStruct
import Derived.Test.YtbfmjbkhnbpbgaaGreatDoorWRepsOne
import Derived.Test.YtbfmjbkhnbpbgaaGreatDoorWInv
import Derived.Test.YtbfmjbkhnbpbgaaGreatDoorWInvWords
import Derived.Test.YtbfmjbkhnbpbgaaGreatDoorWGuard
import Derived.Test.YtbfmjbkhnbpbgaaGreatDoorWNEv
import Derived.Test.YtbfmjbkhnbpbgaaGreatDoorWMore
namespace Go.Proofs.YtbfmjbkhnbpbgaaGreatDoor.PF
open Go.RowKit Go.Proofs.YtbfmjbkhnbpbgaaGreatDoorW.PrintWords Go.Proofs.YtbfmjbkhnbpbgaaGreatDoorW.PrintLast Go.Proofs.YtbfmjbkhnbpbgaaGreatDoorW.PrintMore
attribute [local go_sem] max2_int min2_int max_two min_two max_three min_three max_four min_four   -- for this text's walks alone
set_option linter.unusedVariables false
set_option linter.unusedSimpArgs false



def errW : Option Int → Value
  | none => .nilIface
  | some c => .iface 46 (.int .i64 c)
theorem errW_none : errW none = .nilIface := rfl
theorem errW_some (c : Int) : errW (some c) = .iface 46 (.int .i64 c) := rfl

theorem info5 : (Tryz.prog.info? 5).map (fun i => (i.zero, i.size, i.bytes)) = some (some (.int .u8 0), 1, 1) := by kernel_rfl
-- the values' own types

end Go.Proofs.YtbfmjbkhnbpbgaaGreatDoor.PF
