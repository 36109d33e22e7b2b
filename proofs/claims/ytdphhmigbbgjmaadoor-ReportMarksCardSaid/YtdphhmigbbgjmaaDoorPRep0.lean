/- Printed by a program of this session (wip/xprint.py) over the kit's print, with contracts of this session's own: the reference of report. -/
import Derived.Test.YtdphhmigbbgjmaaDoorProg
import Derived.Below
import Derived.Deep.Draws
import Derived.Deep.AppendLies
import Derived.Maps.AppendAt
import Derived.OwnWalk
import Derived.Laws.BytesArg
import Derived.Laws.MakeOwn
import Derived.Laws.OwnMore
import Derived.Deep.OwnRows
import Derived.Tactics
import Derived.Lib.ConvBytes
import Derived.Laws.Slices
import Derived.WalkKit
import Derived.KernelRfl
import Derived.RowKit3
import Derived.Deep.LoopGhost
import Derived.Deep.QuietTactic
import Derived.BigQuiet
import Derived.WideLaws
import Derived.Deep.DeepCutAuto
import Derived.Deep.CutBlock
import Derived.Deep.RegionHeld3
import Derived.Laws.Rows
import Derived.Lib.AppendStr
import Derived.ArgAppend
import Derived.Laws.IdiomCopy
import Derived.OrdersHeld
import Derived.Laws.BitsLemmas
import Derived.RowKit
import Derived.Test.YtdphhmigbbgjmaaDoorM1
import Derived.Test.YtdphhmigbbgjmaaDoorRepX
import Derived.Test.YtdphhmigbbgjmaaDoorWWords
import Derived.Test.YtdphhmigbbgjmaaDoorWLast
import Derived.Test.YtdphhmigbbgjmaaDoorWTab
import Derived.Test.YtdphhmigbbgjmaaDoorWFour
import Derived.Test.YtdphhmigbbgjmaaDoorWQPut
import Derived.Test.YtdphhmigbbgjmaaDoorWApart
import Derived.Test.YtdphhmigbbgjmaaDoorWArr
import Derived.Test.YtdphhmigbbgjmaaDoorWZeros
import Derived.Test.YtdphhmigbbgjmaaDoorWFoot
import Derived.Test.YtdphhmigbbgjmaaDoorWKept
import Derived.Test.YtdphhmigbbgjmaaDoorWShare
import Derived.Test.YtdphhmigbbgjmaaDoorWN
import Derived.Test.YtdphhmigbbgjmaaDoorWFootNe
import Derived.Test.YtdphhmigbbgjmaaDoorWAt
import Derived.Test.YtdphhmigbbgjmaaDoorWEqStruct
import Derived.Test.YtdphhmigbbgjmaaDoorWRepsOne
import Derived.Test.YtdphhmigbbgjmaaDoorWInv
import Derived.Test.YtdphhmigbbgjmaaDoorWInvWords
import Derived.Test.YtdphhmigbbgjmaaDoorWGuard
import Derived.Test.YtdphhmigbbgjmaaDoorWNEv
import Derived.Test.YtdphhmigbbgjmaaDoorWMore
namespace Go.Proofs.YtdphhmigbbgjmaaDoor.PRep
open Go.RowKit Go.Proofs.YtdphhmigbbgjmaaDoorW.PrintWords Go.Proofs.YtdphhmigbbgjmaaDoorW.PrintLast Go.Proofs.YtdphhmigbbgjmaaDoorW.PrintMore
attribute [local go_sem] max2_int min2_int max_two min_two max_three min_three max_four min_four   -- for this text's walks alone
set_option linter.unusedVariables false
set_option linter.unusedSimpArgs false
attribute [local go_sem ↓] cutS_in



def errW : Option Int → Value
  | none => .nilIface
  | some c => .iface 0 (.int .i64 c)
theorem errW_none : errW none = .nilIface := rfl
theorem errW_some (c : Int) : errW (some c) = .iface 0 (.int .i64 c) := rfl

theorem info5 : (Tryd.prog.info? 5).map (fun i => (i.zero, i.size, i.bytes)) = some (some (.int .u8 0), 1, 1) := by kernel_rfl
-- the values' own types

end Go.Proofs.YtdphhmigbbgjmaaDoor.PRep
