/- Printed by a program of this session (wip/xprint.py) over the kit's print, with contracts of this session's own: scan, its reference, its laws. -/
import Derived.Test.YtdphhmigbbgjmaaGreatDoorPScan0
import Derived.Test.YtdphhmigbbgjmaaGreatDoorPScan1
import Derived.Test.YtdphhmigbbgjmaaGreatDoorPScan2
import Derived.Test.YtdphhmigbbgjmaaGreatDoorPScan3
import Derived.Test.YtdphhmigbbgjmaaGreatDoorPScan4
import Derived.Test.YtdphhmigbbgjmaaGreatDoorPScan5
import Derived.Test.YtdphhmigbbgjmaaGreatDoorPScan6
import Derived.Test.YtdphhmigbbgjmaaGreatDoorPScan7
import Derived.Test.YtdphhmigbbgjmaaGreatDoorPScan8
import Derived.Test.YtdphhmigbbgjmaaGreatDoorPScan9
namespace Go.Proofs.YtdphhmigbbgjmaaGreatDoor.PScan
open Go.RowKit Go.Proofs.YtdphhmigbbgjmaaGreatDoorW.PrintWords Go.Proofs.YtdphhmigbbgjmaaGreatDoorW.PrintLast Go.Proofs.YtdphhmigbbgjmaaGreatDoorW.PrintMore
attribute [local go_sem] max2_int min2_int max_two min_two max_three min_three max_four min_four   -- for this text's walks alone
set_option linter.unusedVariables false
set_option linter.unusedSimpArgs false
attribute [local go_sem ↓] cutS_in

end Go.Proofs.YtdphhmigbbgjmaaGreatDoor.PScan
