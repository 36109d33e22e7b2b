/- Printed by a program of this session (wip/xprint.py) over the kit's print, with contracts of this session's own: scan, its reference, its laws. -/
import Derived.Test.YtdphhmigbbgjmaaDoorPScan0
import Derived.Test.YtdphhmigbbgjmaaDoorPScan7
namespace Go.Proofs.YtdphhmigbbgjmaaDoor.PScan
open Go.RowKit Go.Proofs.YtdphhmigbbgjmaaDoorW.PrintWords Go.Proofs.YtdphhmigbbgjmaaDoorW.PrintLast Go.Proofs.YtdphhmigbbgjmaaDoorW.PrintMore
attribute [local go_sem] max2_int min2_int max_two min_two max_three min_three max_four min_four   -- for this text's walks alone
set_option linter.unusedVariables false
set_option linter.unusedSimpArgs false
attribute [local go_sem ↓] cutS_in

/-! ### colophonref04_IsKey: function 88 -/
def colophonref04_IsKey.l0 : Nat → ByteArray → List ByteArray → Int → Option (Bool)
  | 0, _, _, _ => none
  | k + 1, x0, x3, x4 => if x4 < (x3.length : Int) then (if 0 ≤ x4 then (if (rdOf ByteArray.empty x3 x4).toList = x0.toList then (some true) else (colophonref04_IsKey.l0 k x0 x3 (wrap64 (x4 + 1)))) else (none)) else (some false)
def colophonref04_IsKey.f (k : Nat) (a0 : ByteArray) : Option (Bool) := (colophonref04_Keys.f).bind fun t238 => (colophonref04_IsKey.l0 k a0 t238 0)
theorem colophonref04_IsKey.mono_l : ∀ k, (∀ y0 y1 y2, LeO (colophonref04_IsKey.l0 k y0 y1 y2) (colophonref04_IsKey.l0 (k + 1) y0 y1 y2))
  | 0 => fun _ _ _ r h => by simp [colophonref04_IsKey.l0] at h
  | k + 1 => by
    have ih0 := colophonref04_IsKey.mono_l k
    · intro y0 y1 y2
      unfold colophonref04_IsKey.l0
      repeat' first
      | (with_reducible exact ih0 _ _ _)
      | (with_reducible exact LeO.refl _)
      | (with_reducible exact LeO.none _)
      | (with_reducible refine LeO.ite ?_ ?_)
      | (with_reducible refine LeO.bind ?_ (fun _ => ?_))
      | exact ih0 _ _ _
      | exact LeO.none _
      | refine LeO.ite ?_ ?_
      | refine LeO.bind ?_ (fun _ => ?_)
theorem colophonref04_IsKey.mono : ∀ a0 k, LeO (colophonref04_IsKey.f k a0) (colophonref04_IsKey.f (k + 1) a0) := by
  intro a0 k
  have ih0 := colophonref04_IsKey.mono_l k
  unfold colophonref04_IsKey.f
  repeat' first
      | (with_reducible exact ih0 _ _ _)
      | (with_reducible exact LeO.refl _)
      | (with_reducible exact LeO.none _)
      | (with_reducible refine LeO.ite ?_ ?_)
      | (with_reducible refine LeO.bind ?_ (fun _ => ?_))
      | exact ih0 _ _ _
      | exact LeO.none _
      | refine LeO.ite ?_ ?_
      | refine LeO.bind ?_ (fun _ => ?_)
end Go.Proofs.YtdphhmigbbgjmaaDoor.PScan
