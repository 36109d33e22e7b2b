/- Printed by a program of this session (wip/xprint.py) over the kit's print, with contracts of this session's own: scan, its reference, its laws. -/
import Derived.Test.YtdphhmigbbgjmaaDoorPScan0
import Derived.Test.YtdphhmigbbgjmaaDoorPScan9
namespace Go.Proofs.YtdphhmigbbgjmaaDoor.PScan
open Go.RowKit Go.Proofs.YtdphhmigbbgjmaaDoorW.PrintWords Go.Proofs.YtdphhmigbbgjmaaDoorW.PrintLast Go.Proofs.YtdphhmigbbgjmaaDoorW.PrintMore
attribute [local go_sem] max2_int min2_int max_two min_two max_three min_three max_four min_four   -- for this text's walks alone
set_option linter.unusedVariables false
set_option linter.unusedSimpArgs false
attribute [local go_sem ↓] cutS_in

/-! ### colophonref10_All: function 14 -/
def colophonref10_All.f (k : Nat) (a0 : ByteArray) : Option ((List (S35)) × Int × Int × Int × Int) := (colophonref10_Find.f k a0).bind fun bt263 => (if bt263.2.1 = 0 then (some (bt263.1, 0, 0, 0, 0)) else (if 0 ≤ bt263.2.2 then (if bt263.2.2 ≤ (a0.size : Int) then ((colophonref03_Advance.f 0 1 1 (cutS a0 0 (bt263.2.2 : Int).toNat)).bind fun bt270 => (some (bt263.1, bt263.2.1, bt270.1, bt270.2.1, bt270.2.2))) else (none)) else (none)))
theorem colophonref10_All.mono : ∀ a0 k, LeO (colophonref10_All.f k a0) (colophonref10_All.f (k + 1) a0) := by
  intro a0 k
  unfold colophonref10_All.f
  repeat' first
      | (with_reducible exact colophonref10_Find.mono _ _)
      | (with_reducible exact LeO.refl _)
      | (with_reducible exact LeO.none _)
      | (with_reducible refine LeO.ite ?_ ?_)
      | (with_reducible refine LeO.bind ?_ (fun _ => ?_))
      | exact colophonref10_Find.mono _ _
      | exact LeO.none _
      | refine LeO.ite ?_ ?_
      | refine LeO.bind ?_ (fun _ => ?_)
def colophonref10_All.T5 : Bool × List (List Nat × List Nat) := (true, [([], []), ([0], [0]), ([], []), ([2], [2]), ([], []), ([], []), ([], []), ([6], [6]), ([5, 7], [5, 7]), ([4, 8], [4, 8]), ([1, 9, 0, 1], [1]), ([3, 10, 0, 1, 2, 3, 10], [3]), ([9, 11, 0, 1, 2, 3, 4, 5, 6, 7, 8, 9, 10, 11], [9])])
def colophonref10_All.B5 : List Nat := [0, 1, 0, 4, 0, 0, 0, 64, 224, 496, 1011, 2047, 4095]
/-! ### colophonlaw10_spoil: function 16 -/
def colophonlaw10_spoil.l0 : Nat → List (S35) → Int → Option (Unit)
  | 0, _, _ => none
  | k + 1, x0, x2 => if x2 < (x0.length : Int) then (if 0 ≤ x2 then (colophonlaw10_spoil.l0 k (x0.set (x2 : Int).toNat (⟨0, (⟨#[119, 114, 105, 116, 116, 101, 110]⟩ : ByteArray), (⟨0, 0, 0⟩ : S26), 0⟩ : S35)) (wrap64 (x2 + 1))) else (none)) else (if x0.length < 2513169434916 then ((some (x0 ++ [(⟨0, (⟨#[98, 101, 104, 105, 110, 100]⟩ : ByteArray), (⟨0, 0, 0⟩ : S26), 0⟩ : S35)] : List (S35))).bind fun y274 => (if 0 ≤ (wrap64 ((y274.length : Int) - 1)) then (if (wrap64 ((y274.length : Int) - 1)) < (y274.length : Int) then (some ()) else (none)) else (none))) else (none))
def colophonlaw10_spoil.f (k : Nat) (l0 : List (S35)) : Option (Unit) := colophonlaw10_spoil.l0 k l0 0
theorem colophonlaw10_spoil.mono_l : ∀ k, (∀ y0 y1, LeO (colophonlaw10_spoil.l0 k y0 y1) (colophonlaw10_spoil.l0 (k + 1) y0 y1))
  | 0 => fun _ _ r h => by simp [colophonlaw10_spoil.l0] at h
  | k + 1 => by
    have ih0 := colophonlaw10_spoil.mono_l k
    · intro y0 y1
      unfold colophonlaw10_spoil.l0
      repeat' first
      | (with_reducible exact ih0 _ _)
      | (with_reducible exact LeO.refl _)
      | (with_reducible exact LeO.none _)
      | (with_reducible refine LeO.ite ?_ ?_)
      | (with_reducible refine LeO.bind ?_ (fun _ => ?_))
      | exact ih0 _ _
      | exact LeO.none _
      | refine LeO.ite ?_ ?_
      | refine LeO.bind ?_ (fun _ => ?_)
theorem colophonlaw10_spoil.mono : ∀ a0 k, LeO (colophonlaw10_spoil.f k a0) (colophonlaw10_spoil.f (k + 1) a0) := by
  intro a0 k
  have ih0 := colophonlaw10_spoil.mono_l k
  unfold colophonlaw10_spoil.f
  repeat' first
      | (with_reducible exact ih0 _ _)
      | (with_reducible exact LeO.refl _)
      | (with_reducible exact LeO.none _)
      | (with_reducible refine LeO.ite ?_ ?_)
      | (with_reducible refine LeO.bind ?_ (fun _ => ?_))
      | exact ih0 _ _
      | exact LeO.none _
      | refine LeO.ite ?_ ?_
      | refine LeO.bind ?_ (fun _ => ?_)
-- NOT PRINTED: function 3 (colophonlaw10_ScanAll)

end Go.Proofs.YtdphhmigbbgjmaaDoor.PScan
