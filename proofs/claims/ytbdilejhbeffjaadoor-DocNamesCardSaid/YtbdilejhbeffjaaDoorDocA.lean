/- The document's examples of layer 7, reckoned. -/
import Derived.Test.YtbdilejhbeffjaaDoorPDoc4
namespace Go.Proofs.YtbdilejhbeffjaaDoor
open Go.RowKit Go.Lib
open PDoc
theorem docNames_f : colophonlaw07_DocNames.f 200 = some true := by decide +kernel
end Go.Proofs.YtbdilejhbeffjaaDoor
