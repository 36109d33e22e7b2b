/- Printed by a program of this session (wip/xprint.py) over the kit's print, with contracts of this session's own: the reference of report. -/
import Derived.Test.YtdphhmigbbgjmaaDoorPRep0
import Derived.Test.YtdphhmigbbgjmaaDoorPRep1
namespace Go.Proofs.YtdphhmigbbgjmaaDoor.PRep
open Go.RowKit Go.Proofs.YtdphhmigbbgjmaaDoorW.PrintWords Go.Proofs.YtdphhmigbbgjmaaDoorW.PrintLast Go.Proofs.YtdphhmigbbgjmaaDoorW.PrintMore
attribute [local go_sem] max2_int min2_int max_two min_two max_three min_three max_four min_four   -- for this text's walks alone
set_option linter.unusedVariables false
set_option linter.unusedSimpArgs false
attribute [local go_sem ↓] cutS_in

end Go.Proofs.YtdphhmigbbgjmaaDoor.PRep
