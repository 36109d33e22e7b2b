/- The law ScanAll, walked over the printed callees. The law ScanAll returns true, walked over the printed callees. -/
import Derived.Test.YtdphhmigbbgjmaaDoorM6
import Derived.Test.YtdphhmigbbgjmaaDoorM5
section
namespace Go.Proofs.YtdphhmigbbgjmaaDoor
open Go.RowKit Go.Lib
open PScan
open Go.Proofs.YtdphhmigbbgjmaaDoorW.PrintWords
set_option linter.unusedVariables false
set_option linter.unusedSimpArgs false
/-- The blocks made between two worlds. -/
def Made (w w' : World) (k : Nat) : Prop := w.heap.size ≤ k ∧ k < w'.heap.size
end Go.Proofs.YtdphhmigbbgjmaaDoor
end
section
namespace Go.Proofs.YtdphhmigbbgjmaaDoor
open Go.RowKit Go.Lib
attribute [local go_sem] byteAt_get wrap64_byteAt
open PScan
open Go.Proofs.YtdphhmigbbgjmaaDoorW.PrintWords
set_option linter.unusedVariables false
set_option linter.unusedSimpArgs false
abbrev plA (x : Int × Int × Int) : Array Value := #[.int .i64 x.1, .int .i64 x.2.1, .int .i64 x.2.2]
end Go.Proofs.YtdphhmigbbgjmaaDoor
end
