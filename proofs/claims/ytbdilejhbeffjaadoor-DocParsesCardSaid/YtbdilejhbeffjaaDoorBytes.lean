/- A row of bytes that the call itself appends to: the laws at this program's types. Conditions: its length is at most 2^47. -/
import Derived.Test.YtbdilejhbeffjaaDoorProg
import Derived.Test.YtbdilejhbeffjaaDoorHeap
import Derived.Lib.AppendStr
import Derived.Lib.UnsafeStr
import Derived.Laws.IdiomStrings
import Derived.Laws.BytesArg
namespace Go.Proofs.YtbdilejhbeffjaaDoor
open Go.RowKit Go.Lib

/-- The slice v is a row of the call's own, from block B on, that holds the bytes l. -/
def Buf (w : World) (B : Nat) (v : Value) (l : List UInt8) : Prop := w.ownsRow B 5 1 v l.length (byteCells l)
end Go.Proofs.YtbdilejhbeffjaaDoor
