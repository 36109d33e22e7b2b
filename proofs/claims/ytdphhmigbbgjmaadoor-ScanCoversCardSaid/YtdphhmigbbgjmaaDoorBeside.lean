/- The shelf's rows and the laws of the cutters of blanks, together. -/
import Derived.Shelf.Strings.SlTrimAscii
import Derived.Test.YtdphhmigbbgjmaaDoorShelf
namespace Go.Proofs
end Go.Proofs
