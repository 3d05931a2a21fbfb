-- Written by the kit's print.py for functions chosen by this session (wip/pr.sh)
import Derived.Test.YtbfmjbkhnbpbgaaDoorProg
import Derived.Below
import Derived.Deep.Draws
import Derived.Deep.AppendLies
import Derived.Maps.AppendAt
import Derived.OwnWalk
import Derived.Laws.BytesArg
import Derived.Laws.MakeOwn
import Derived.Laws.OwnMore
import Derived.Deep.OwnRows
import Derived.Tactics
import Derived.Lib.ConvBytes
import Derived.Laws.Slices
import Derived.WalkKit
import Derived.KernelRfl
import Derived.RowKit3
import Derived.Deep.LoopGhost
import Derived.Deep.QuietTactic
import Derived.BigQuiet
import Derived.WideLaws
import Derived.Deep.DeepCutAuto
import Derived.Deep.CutBlock
import Derived.Deep.RegionHeld3
import Derived.Laws.Rows
import Derived.Lib.AppendStr
import Derived.ArgAppend
import Derived.Laws.IdiomCopy
import Derived.OrdersHeld
import Derived.Laws.BitsLemmas
import Derived.RowKit
import Derived.Test.YtbfmjbkhnbpbgaaDoorWWords
import Derived.Test.YtbfmjbkhnbpbgaaDoorWLast
import Derived.Test.YtbfmjbkhnbpbgaaDoorWTab
import Derived.Test.YtbfmjbkhnbpbgaaDoorWFour
import Derived.Test.YtbfmjbkhnbpbgaaDoorWQPut
import Derived.Test.YtbfmjbkhnbpbgaaDoorWApart
import Derived.Test.YtbfmjbkhnbpbgaaDoorWArr
import Derived.Test.YtbfmjbkhnbpbgaaDoorWZeros
import Derived.Test.YtbfmjbkhnbpbgaaDoorWFoot
import Derived.Test.YtbfmjbkhnbpbgaaDoorWKept
import Derived.Test.YtbfmjbkhnbpbgaaDoorWShare
import Derived.Test.YtbfmjbkhnbpbgaaDoorWN
import Derived.Test.YtbfmjbkhnbpbgaaDoorWFootNe
import Derived.Test.YtbfmjbkhnbpbgaaDoorWAt
import Derived.Test.YtbfmjbkhnbpbgaaDoorWEqStruct
import Derived.Test.YtbfmjbkhnbpbgaaDoorWRepsOne
import Derived.Test.YtbfmjbkhnbpbgaaDoorWInv
import Derived.Test.YtbfmjbkhnbpbgaaDoorWInvWords
import Derived.Test.YtbfmjbkhnbpbgaaDoorWGuard
import Derived.Test.YtbfmjbkhnbpbgaaDoorWNEv
import Derived.Test.YtbfmjbkhnbpbgaaDoorWMore
namespace Go.Proofs.YtbfmjbkhnbpbgaaDoor.PF
open Go.RowKit Go.Proofs.YtbfmjbkhnbpbgaaDoorW.PrintWords Go.Proofs.YtbfmjbkhnbpbgaaDoorW.PrintLast Go.Proofs.YtbfmjbkhnbpbgaaDoorW.PrintMore
attribute [local go_sem] max2_int min2_int max_two min_two max_three min_three max_four min_four   -- for this text's walks alone
set_option linter.unusedVariables false
set_option linter.unusedSimpArgs false



def errW : Option Int → Value
  | none => .nilIface
  | some c => .iface 36 (.int .i64 c)
theorem errW_none : errW none = .nilIface := rfl
theorem errW_some (c : Int) : errW (some c) = .iface 36 (.int .i64 c) := rfl

theorem info5 : (Tryd.prog.info? 5).map (fun i => (i.zero, i.size, i.bytes)) = some (some (.int .u8 0), 1, 1) := by kernel_rfl
-- the values' own types

end Go.Proofs.YtbfmjbkhnbpbgaaDoor.PF
