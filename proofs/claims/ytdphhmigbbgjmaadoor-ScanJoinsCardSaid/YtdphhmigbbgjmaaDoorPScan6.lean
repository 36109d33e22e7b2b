/- Printed by a program of this session (wip/xprint.py) over the kit's print, with contracts of this session's own: scan, its reference, its laws. -/
import Derived.Test.YtdphhmigbbgjmaaDoorPScan0
import Derived.Test.YtdphhmigbbgjmaaDoorPScan5
namespace Go.Proofs.YtdphhmigbbgjmaaDoor.PScan
open Go.RowKit Go.Proofs.YtdphhmigbbgjmaaDoorW.PrintWords Go.Proofs.YtdphhmigbbgjmaaDoorW.PrintLast Go.Proofs.YtdphhmigbbgjmaaDoorW.PrintMore
attribute [local go_sem] max2_int min2_int max_two min_two max_three min_three max_four min_four   -- for this text's walks alone
set_option linter.unusedVariables false
set_option linter.unusedSimpArgs false
attribute [local go_sem ↓] cutS_in

/-! ### colophonref10_begins: function 86 -/
mutual
def colophonref10_begins.j0 : Nat → ByteArray → Int → Bool → Option (Int)
  | 0, _, _, _ => none
  | k + 1, x0, x1, x8 => (colophonref04_Sign.f k x0 x1).bind fun t203 => (if x8 = true then (some 1) else (if 0 ≤ x1 then (if x1 < (x0.size : Int) then ((colophonref10_digit.f (bt x0 x1)).bind fun t204 => (if t204 = true then (some 3) else (if (bt x0 x1) = 34 then (some 4) else (if (bt x0 x1) = 39 then (some 5) else (if (bt x0 x1) = 47 then (if (wrap64 (x1 + 1)) < (x0.size : Int) then (if 0 ≤ (wrap64 (x1 + 1)) then (colophonref10_begins.j1 k x0 x1 t203 ((bt x0 (wrap64 (x1 + 1))) == 47)) else (none)) else (colophonref10_begins.j1 k x0 x1 t203 false)) else (colophonref10_begins.j1 k x0 x1 t203 false)))))) else (none)) else (none)))
def colophonref10_begins.j1 : Nat → ByteArray → Int → ByteArray → Bool → Option (Int)
  | 0, _, _, _, _ => none
  | k + 1, x0, x1, x9, x42 => if x42 = true then (some 7) else (if 0 ≤ x1 then (if x1 < (x0.size : Int) then (if (bt x0 x1) = 123 then (some 8) else (if x9.toList = ([] : List UInt8) then (some 0) else (some 6))) else (none)) else (none))
end
def colophonref10_begins.f (k : Nat) (a0 : ByteArray) (a1 : Int) : Option (Int) := (colophonref01_Next.f a0 a1).bind fun bt199 => (if bt199.2.2 = true then ((colophonref04_Letter.f k bt199.1).bind fun t202 => (colophonref10_begins.j0 k a0 a1 t202)) else (colophonref10_begins.j0 k a0 a1 false))
theorem colophonref10_begins.mono_l : ∀ k, (∀ y0 y1 y2, LeO (colophonref10_begins.j0 k y0 y1 y2) (colophonref10_begins.j0 (k + 1) y0 y1 y2)) ∧ (∀ y0 y1 y2 y3, LeO (colophonref10_begins.j1 k y0 y1 y2 y3) (colophonref10_begins.j1 (k + 1) y0 y1 y2 y3))
  | 0 => ⟨fun _ _ _ r h => by simp [colophonref10_begins.j0] at h, fun _ _ _ _ r h => by simp [colophonref10_begins.j1] at h⟩
  | k + 1 => by
    obtain ⟨ih0, ih1⟩ := colophonref10_begins.mono_l k
    refine ⟨?_, ?_⟩
    · intro y0 y1 y2
      unfold colophonref10_begins.j0
      repeat' first
      | (with_reducible exact ih0 _ _ _)
      | (with_reducible exact ih1 _ _ _ _)
      | (with_reducible exact colophonref04_Letter.mono _ _)
      | (with_reducible exact colophonref04_Sign.mono _ _ _)
      | (with_reducible exact LeO.refl _)
      | (with_reducible exact LeO.none _)
      | (with_reducible refine LeO.ite ?_ ?_)
      | (with_reducible refine LeO.bind ?_ (fun _ => ?_))
      | exact ih0 _ _ _
      | exact ih1 _ _ _ _
      | exact colophonref04_Letter.mono _ _
      | exact colophonref04_Sign.mono _ _ _
      | exact LeO.none _
      | refine LeO.ite ?_ ?_
      | refine LeO.bind ?_ (fun _ => ?_)
    · intro y0 y1 y2 y3
      unfold colophonref10_begins.j1
      repeat' first
      | (with_reducible exact ih0 _ _ _)
      | (with_reducible exact ih1 _ _ _ _)
      | (with_reducible exact colophonref04_Letter.mono _ _)
      | (with_reducible exact colophonref04_Sign.mono _ _ _)
      | (with_reducible exact LeO.refl _)
      | (with_reducible exact LeO.none _)
      | (with_reducible refine LeO.ite ?_ ?_)
      | (with_reducible refine LeO.bind ?_ (fun _ => ?_))
      | exact ih0 _ _ _
      | exact ih1 _ _ _ _
      | exact colophonref04_Letter.mono _ _
      | exact colophonref04_Sign.mono _ _ _
      | exact LeO.none _
      | refine LeO.ite ?_ ?_
      | refine LeO.bind ?_ (fun _ => ?_)
theorem colophonref10_begins.mono : ∀ a0 a1 k, LeO (colophonref10_begins.f k a0 a1) (colophonref10_begins.f (k + 1) a0 a1) := by
  intro a0 a1 k
  obtain ⟨ih0, ih1⟩ := colophonref10_begins.mono_l k
  unfold colophonref10_begins.f
  repeat' first
      | (with_reducible exact ih0 _ _ _)
      | (with_reducible exact ih1 _ _ _ _)
      | (with_reducible exact colophonref04_Letter.mono _ _)
      | (with_reducible exact colophonref04_Sign.mono _ _ _)
      | (with_reducible exact LeO.refl _)
      | (with_reducible exact LeO.none _)
      | (with_reducible refine LeO.ite ?_ ?_)
      | (with_reducible refine LeO.bind ?_ (fun _ => ?_))
      | exact ih0 _ _ _
      | exact ih1 _ _ _ _
      | exact colophonref04_Letter.mono _ _
      | exact colophonref04_Sign.mono _ _ _
      | exact LeO.none _
      | refine LeO.ite ?_ ?_
      | refine LeO.bind ?_ (fun _ => ?_)
/-! ### colophonref10_control: function 166 -/
def colophonref10_control.f (a0 : Int) (a1 : Bool) : Option (Bool) := if a1 = true then (if a0 < 32 then (some true) else (some (a0 == 127))) else (some false)
/-! ### colophonref10_quoted: function 132 -/
mutual
def colophonref10_quoted.l0 : Nat → ByteArray → Int → Int → Bool → Int → Int → Option (Int × Int)
  | 0, _, _, _, _, _, _ => none
  | k + 1, x0, x1, x2, x3, x9, x10 => if x9 < (x0.size : Int) then (if 0 ≤ x9 then (colophonref10_quoted.j1 k x0 x1 x2 x3 x9 x10 ((bt x0 x9) != 10)) else (none)) else (colophonref10_quoted.j1 k x0 x1 x2 x3 x9 x10 false)
def colophonref10_quoted.j1 : Nat → ByteArray → Int → Int → Bool → Int → Int → Bool → Option (Int × Int)
  | 0, _, _, _, _, _, _, _ => none
  | k + 1, x0, x1, x2, x3, x9, x10, x27 => if x27 = true then ((colophonref01_Next.f x0 x9).bind fun bt206 => (if 0 ≤ x9 then (if x9 < (x0.size : Int) then (if (bt x0 x9) = x2 then (if x3 = true then (colophonref10_quoted.j2 k x0 x1 x2 x3 x9 x10 bt206.1 bt206.2.1 bt206.2.2 (x10 == 1)) else (colophonref10_quoted.j2 k x0 x1 x2 x3 x9 x10 bt206.1 bt206.2.1 bt206.2.2 true)) else (colophonref10_quoted.j2 k x0 x1 x2 x3 x9 x10 bt206.1 bt206.2.1 bt206.2.2 false)) else (none)) else (none))) else (some (x1, 101))
def colophonref10_quoted.j2 : Nat → ByteArray → Int → Int → Bool → Int → Int → Int → Int → Bool → Bool → Option (Int × Int)
  | 0, _, _, _, _, _, _, _, _, _, _ => none
  | k + 1, x0, x1, x2, x3, x9, x10, x11, x12, x13, x14 => (colophonref10_control.f x11 x13).bind fun t209 => (if (wrap64 ((wrap64 (x9 + x12)) - x1)) > 65535 then (some (x1, 103)) else (if x14 = true then (some (wrap64 (x9 + 1), 0)) else (if t209 = true then (some (x9, 102)) else (if x3 = true then (if x10 = 1 then (some (x9, 102)) else (if 0 ≤ x9 then (if x9 < (x0.size : Int) then (if (bt x0 x9) = x2 then (some (x9, 102)) else (colophonref10_quoted.l0 k x0 x1 x2 x3 (wrap64 (x9 + x12)) (wrap64 (x10 + 1)))) else (none)) else (none))) else (colophonref10_quoted.l0 k x0 x1 x2 x3 (wrap64 (x9 + x12)) (wrap64 (x10 + 1)))))))
end
def colophonref10_quoted.f (k : Nat) (a0 : ByteArray) (a1 : Int) (a2 : Int) (a3 : Bool) : Option (Int × Int) := colophonref10_quoted.l0 k a0 a1 a2 a3 (wrap64 (a1 + 1)) 0
theorem colophonref10_quoted.mono_l : ∀ k, (∀ y0 y1 y2 y3 y4 y5, LeO (colophonref10_quoted.l0 k y0 y1 y2 y3 y4 y5) (colophonref10_quoted.l0 (k + 1) y0 y1 y2 y3 y4 y5)) ∧ (∀ y0 y1 y2 y3 y4 y5 y6, LeO (colophonref10_quoted.j1 k y0 y1 y2 y3 y4 y5 y6) (colophonref10_quoted.j1 (k + 1) y0 y1 y2 y3 y4 y5 y6)) ∧ (∀ y0 y1 y2 y3 y4 y5 y6 y7 y8 y9, LeO (colophonref10_quoted.j2 k y0 y1 y2 y3 y4 y5 y6 y7 y8 y9) (colophonref10_quoted.j2 (k + 1) y0 y1 y2 y3 y4 y5 y6 y7 y8 y9))
  | 0 => ⟨fun _ _ _ _ _ _ r h => by simp [colophonref10_quoted.l0] at h, fun _ _ _ _ _ _ _ r h => by simp [colophonref10_quoted.j1] at h, fun _ _ _ _ _ _ _ _ _ _ r h => by simp [colophonref10_quoted.j2] at h⟩
  | k + 1 => by
    obtain ⟨ih0, ih1, ih2⟩ := colophonref10_quoted.mono_l k
    refine ⟨?_, ?_, ?_⟩
    · intro y0 y1 y2 y3 y4 y5
      unfold colophonref10_quoted.l0
      repeat' first
      | (with_reducible exact ih0 _ _ _ _ _ _)
      | (with_reducible exact ih1 _ _ _ _ _ _ _)
      | (with_reducible exact ih2 _ _ _ _ _ _ _ _ _ _)
      | (with_reducible exact LeO.refl _)
      | (with_reducible exact LeO.none _)
      | (with_reducible refine LeO.ite ?_ ?_)
      | (with_reducible refine LeO.bind ?_ (fun _ => ?_))
      | exact ih0 _ _ _ _ _ _
      | exact ih1 _ _ _ _ _ _ _
      | exact ih2 _ _ _ _ _ _ _ _ _ _
      | exact LeO.none _
      | refine LeO.ite ?_ ?_
      | refine LeO.bind ?_ (fun _ => ?_)
    · intro y0 y1 y2 y3 y4 y5 y6
      unfold colophonref10_quoted.j1
      repeat' first
      | (with_reducible exact ih0 _ _ _ _ _ _)
      | (with_reducible exact ih1 _ _ _ _ _ _ _)
      | (with_reducible exact ih2 _ _ _ _ _ _ _ _ _ _)
      | (with_reducible exact LeO.refl _)
      | (with_reducible exact LeO.none _)
      | (with_reducible refine LeO.ite ?_ ?_)
      | (with_reducible refine LeO.bind ?_ (fun _ => ?_))
      | exact ih0 _ _ _ _ _ _
      | exact ih1 _ _ _ _ _ _ _
      | exact ih2 _ _ _ _ _ _ _ _ _ _
      | exact LeO.none _
      | refine LeO.ite ?_ ?_
      | refine LeO.bind ?_ (fun _ => ?_)
    · intro y0 y1 y2 y3 y4 y5 y6 y7 y8 y9
      unfold colophonref10_quoted.j2
      repeat' first
      | (with_reducible exact ih0 _ _ _ _ _ _)
      | (with_reducible exact ih1 _ _ _ _ _ _ _)
      | (with_reducible exact ih2 _ _ _ _ _ _ _ _ _ _)
      | (with_reducible exact LeO.refl _)
      | (with_reducible exact LeO.none _)
      | (with_reducible refine LeO.ite ?_ ?_)
      | (with_reducible refine LeO.bind ?_ (fun _ => ?_))
      | exact ih0 _ _ _ _ _ _
      | exact ih1 _ _ _ _ _ _ _
      | exact ih2 _ _ _ _ _ _ _ _ _ _
      | exact LeO.none _
      | refine LeO.ite ?_ ?_
      | refine LeO.bind ?_ (fun _ => ?_)
theorem colophonref10_quoted.mono : ∀ a0 a1 a2 a3 k, LeO (colophonref10_quoted.f k a0 a1 a2 a3) (colophonref10_quoted.f (k + 1) a0 a1 a2 a3) := by
  intro a0 a1 a2 a3 k
  obtain ⟨ih0, ih1, ih2⟩ := colophonref10_quoted.mono_l k
  unfold colophonref10_quoted.f
  repeat' first
      | (with_reducible exact ih0 _ _ _ _ _ _)
      | (with_reducible exact ih1 _ _ _ _ _ _ _)
      | (with_reducible exact ih2 _ _ _ _ _ _ _ _ _ _)
      | (with_reducible exact LeO.refl _)
      | (with_reducible exact LeO.none _)
      | (with_reducible refine LeO.ite ?_ ?_)
      | (with_reducible refine LeO.bind ?_ (fun _ => ?_))
      | exact ih0 _ _ _ _ _ _
      | exact ih1 _ _ _ _ _ _ _
      | exact ih2 _ _ _ _ _ _ _ _ _ _
      | exact LeO.none _
      | refine LeO.ite ?_ ?_
      | refine LeO.bind ?_ (fun _ => ?_)
end Go.Proofs.YtdphhmigbbgjmaaDoor.PScan
