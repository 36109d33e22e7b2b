/- A text's beginning scanned: its tokens are the text's. Plain Lean; conditions: the beginning is scanned without an error. -/
import Derived.Test.YtdphhmigbbgjmaaDoorM5
import Derived.Test.YtdphhmigbbgjmaaDoorBegA
namespace Go.Proofs.YtdphhmigbbgjmaaDoor
open Go.RowKit Go.Lib
open PScan
set_option linter.unusedVariables false
set_option linter.unusedSimpArgs false
theorem tk_pre (y : ByteArray) (n a m E : Nat) (r : Int × Int × Int) (ham : a ≤ m) (hm : m ≤ n) (hE : r.2.1 = (E : Int)) (hEn : E ≤ n) : tkV (cutS y 0 n) a m r = tkV y a m r := by
  have htx : txV (cutS y 0 n) m r = txV y m r := by
    unfold txV
    rw [hE, Int.toNat_natCast, cut0_cut y n m E hEn]
  unfold tkV
  rw [htx, (plT_pre y n m hm).1, (plT_pre y n m hm).2, (plT_pre y n a (by omega)).2]
end Go.Proofs.YtdphhmigbbgjmaaDoor
