/- A token of a text's beginning is the text's. Plain Lean; condition: it does not end where the beginning does, or a line end follows. -/
import Derived.Test.YtdphhmigbbgjmaaDoorM4
namespace Go.Proofs.YtdphhmigbbgjmaaDoor
open Go.RowKit Go.Lib
set_option linter.unusedVariables false
set_option linter.unusedSimpArgs false
theorem ba_ext {x y : ByteArray} (h : x.data.toList = y.data.toList) : x = y := by
  cases x; cases y; simp at h; rw [h]
/-- A character that the cut goes through. -/
def Tr (y : ByteArray) (n e : Nat) : Prop := n < e + nOf y e
/-- What ends each token but a sign: a byte 10 behind the cut. -/
def NL (y : ByteArray) (n : Nat) : Prop := n < y.size ∧ byteAt y n = 10
end Go.Proofs.YtdphhmigbbgjmaaDoor
