/- The reference's letters, words, signs: the same as the program's. The reference's tokens end where the program's do. The reference's texts and comments end where the program's do; how its tokens begin. The reference's comments end where the program's do; how its tokens begin and end: the program's. The reference's row of tokens is the plain one. -/
import Derived.Test.YtdphhmigbbgjmaaDoorM4
import Derived.Test.YtdphhmigbbgjmaaDoorPScan5
import Derived.Test.YtdphhmigbbgjmaaDoorPScan6
import Derived.Test.YtdphhmigbbgjmaaDoorPScan7
import Derived.Test.YtdphhmigbbgjmaaDoorPScan8
import Derived.Test.YtdphhmigbbgjmaaDoorM5
import Derived.Test.YtdphhmigbbgjmaaDoorPScan9
import Derived.Test.YtdphhmigbbgjmaaDoorPScan10
section
namespace Go.Proofs.YtdphhmigbbgjmaaDoor
open Go.RowKit Go.Lib
open PScan
open Go.Proofs.YtdphhmigbbgjmaaDoorW.PrintWords
set_option linter.unusedVariables false
set_option linter.unusedSimpArgs false
def sgsR : List ByteArray := [⟨#[58, 61]⟩, ⟨#[46, 46]⟩, ⟨#[60, 61]⟩, ⟨#[62, 61]⟩, ⟨#[59]⟩, ⟨#[46]⟩, ⟨#[44]⟩, ⟨#[58]⟩, ⟨#[61]⟩, ⟨#[35]⟩, ⟨#[60]⟩, ⟨#[62]⟩, ⟨#[40]⟩, ⟨#[41]⟩, ⟨#[91]⟩, ⟨#[93]⟩, ⟨#[43]⟩, ⟨#[45]⟩, ⟨#[42]⟩, ⟨#[47]⟩, ⟨#[37]⟩]
/-- The first of some that a text begins with. -/
def firstP (l : Bs) : List ByteArray → ByteArray
  | [] => ⟨#[]⟩
  | p :: r => if Lib.hasPrefix l p.data.toList = true then p else firstP l r
end Go.Proofs.YtdphhmigbbgjmaaDoor
end
section
namespace Go.Proofs.YtdphhmigbbgjmaaDoor
open Go.RowKit Go.Lib
open PScan
open Go.Proofs.YtdphhmigbbgjmaaDoorW.PrintWords
set_option linter.unusedVariables false
set_option linter.unusedSimpArgs false
def two (r : Int × Int × Int) : Int × Int := (r.2.1, r.2.2)
end Go.Proofs.YtdphhmigbbgjmaaDoor
end
section
namespace Go.Proofs.YtdphhmigbbgjmaaDoor
open Go.RowKit Go.Lib
open PScan
open Go.Proofs.YtdphhmigbbgjmaaDoorW.PrintWords
set_option linter.unusedVariables false
set_option linter.unusedSimpArgs false
end Go.Proofs.YtdphhmigbbgjmaaDoor
end
section
namespace Go.Proofs.YtdphhmigbbgjmaaDoor
open Go.RowKit Go.Lib
open PScan
open Go.Proofs.YtdphhmigbbgjmaaDoorW.PrintWords
set_option linter.unusedVariables false
set_option linter.unusedSimpArgs false
/-- The kind of the token that begins at a place; 0: none does. -/
def bgV (s : ByteArray) (a : Nat) : Int :=
  if gOf s a = true ∧ ltrB (pOf s a) = true then 1
  else if 48 ≤ byteAt s a ∧ byteAt s a ≤ 57 then 3
  else if byteAt s a = 34 then 4
  else if byteAt s a = 39 then 5
  else if slB s a = true then 7
  else if byteAt s a = 123 then 8
  else if signL (s.data.toList.drop a) = [] then 0 else 6
end Go.Proofs.YtdphhmigbbgjmaaDoor
end
section
namespace Go.Proofs.YtdphhmigbbgjmaaDoor
open Go.RowKit Go.Lib
open PScan
open Go.Proofs.YtdphhmigbbgjmaaDoorW.PrintWords
set_option linter.unusedVariables false
set_option linter.unusedSimpArgs false
end Go.Proofs.YtdphhmigbbgjmaaDoor
end
