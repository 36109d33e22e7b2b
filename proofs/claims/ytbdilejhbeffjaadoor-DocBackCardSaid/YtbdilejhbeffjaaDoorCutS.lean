/- A cut of a text under a word of its own, so that the walk leaves its length alone. -/
import Derived.Test.YtbdilejhbeffjaaDoorProg
import Derived.WalkKit
namespace Go.Proofs.YtbdilejhbeffjaaDoor
def cutS (s : ByteArray) (a b : Nat) : ByteArray := s.extract a b
theorem cutS_in (s : ByteArray) (a b : Nat) : s.extract a b = cutS s a b := rfl
end Go.Proofs.YtbdilejhbeffjaaDoor
