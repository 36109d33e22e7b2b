/- Printed by a program of this session (wip/xprint.py) over the kit's print, with contracts of this session's own: doc, its reference, its laws. -/
import Derived.Test.YtbdilejhbeffjaaDoorPDoc0
import Derived.Test.YtbdilejhbeffjaaDoorDocY
import Derived.Test.YtbdilejhbeffjaaDoorPDoc3
import Derived.Test.YtbdilejhbeffjaaDoorPDoc4
namespace Go.Proofs.YtbdilejhbeffjaaDoor.PDoc
open Go.RowKit Go.Proofs.YtbdilejhbeffjaaDoorW.PrintWords Go.Proofs.YtbdilejhbeffjaaDoorW.PrintLast Go.Proofs.YtbdilejhbeffjaaDoorW.PrintMore
attribute [local go_sem] max2_int min2_int max_two min_two max_three min_three max_four min_four   -- for this text's walks alone
set_option linter.unusedVariables false
set_option linter.unusedSimpArgs false
attribute [local go_sem ↓] cutS_in

/-! ### colophonlaw07_DocReads: function 12 -/
def colophonlaw07_DocReads.j0 : Nat → ByteArray → List (S33) → Bool → Option (Bool)
  | 0, _, _, _ => none
  | k + 1, x0, x3, x36 => if x36 = true then (some false) else (if x0.toList = ([] : List UInt8) then ((colophonlaw07_awake.f k).bind fun t324 => (if t324 = true then (some ((x3.length : Int) == 0)) else (some false))) else (if 0 ≤ (wrap64 ((x0.size : Int) - 1)) then (if (wrap64 ((x0.size : Int) - 1)) ≤ (x0.size : Int) then ((doc_Parse.f k (cutS x0 0 ((wrap64 ((x0.size : Int) - 1)) : Int).toNat)).bind fun bt325 => ((colophonlaw07_awake.f k).bind fun t330 => (if t330 = true then (if bt325.2.1 = 71 then (some (bt325.2.2 == (x3.length : Int))) else (some false)) else (some false)))) else (none)) else (none)))
def colophonlaw07_DocReads.f (k : Nat) (a0 : ByteArray) : Option (Bool) := (doc_Parse.f k a0).bind fun bt316 => (if bt316.2.1 = 0 then ((doc_Print.f bt316.1).bind fun bt322 => (if bt322.2 = 0 then (colophonlaw07_DocReads.j0 k a0 bt316.1 (bt322.1.toList != a0.toList)) else (colophonlaw07_DocReads.j0 k a0 bt316.1 true))) else ((colophonlaw07_awake.f k).bind fun t321 => (if t321 = true then (some ((bt316.1.length : Int) == 0)) else (some false))))
end Go.Proofs.YtbdilejhbeffjaaDoor.PDoc
