/- Printed by a program of this session (wip/xprint.py) over the kit's print, with contracts of this session's own: scan, its reference, its laws. -/
import Derived.Test.YtdphhmigbbgjmaaDoorPScan0
import Derived.Test.YtdphhmigbbgjmaaDoorPScan5
import Derived.Test.YtdphhmigbbgjmaaDoorPScan6
namespace Go.Proofs.YtdphhmigbbgjmaaDoor.PScan
open Go.RowKit Go.Proofs.YtdphhmigbbgjmaaDoorW.PrintWords Go.Proofs.YtdphhmigbbgjmaaDoorW.PrintLast Go.Proofs.YtdphhmigbbgjmaaDoorW.PrintMore
attribute [local go_sem] max2_int min2_int max_two min_two max_three min_three max_four min_four   -- for this text's walks alone
set_option linter.unusedVariables false
set_option linter.unusedSimpArgs false
attribute [local go_sem ↓] cutS_in

/-! ### colophonref10_comment: function 133 -/
mutual
def colophonref10_comment.l0 : Nat → ByteArray → Int → Bool → Int → Option (Int × Int)
  | 0, _, _, _, _ => none
  | k + 1, x0, x1, x2, x7 => if x7 < (x0.size : Int) then (if x2 = true then (colophonref10_comment.j1 k x0 x1 x2 x7 false) else (if 0 ≤ x7 then (colophonref10_comment.j1 k x0 x1 x2 x7 ((bt x0 x7) == 10)) else (none))) else (if x2 = true then (some (x1, 101)) else (some (x7, 0)))
def colophonref10_comment.j1 : Nat → ByteArray → Int → Bool → Int → Bool → Option (Int × Int)
  | 0, _, _, _, _, _ => none
  | k + 1, x0, x1, x2, x7, x20 => if x20 = true then (some (x7, 0)) else (if (wrap64 ((wrap64 (x7 + 1)) - x1)) > 65535 then (some (x1, 103)) else (if x2 = true then (if 0 ≤ x7 then (if x7 < (x0.size : Int) then (if (bt x0 x7) = 125 then (some (wrap64 (x7 + 1), 0)) else (colophonref10_comment.l0 k x0 x1 x2 (wrap64 (x7 + 1)))) else (none)) else (none)) else (colophonref10_comment.l0 k x0 x1 x2 (wrap64 (x7 + 1)))))
end
def colophonref10_comment.f (k : Nat) (a0 : ByteArray) (a1 : Int) (a2 : Bool) : Option (Int × Int) := colophonref10_comment.l0 k a0 a1 a2 a1
theorem colophonref10_comment.mono_l : ∀ k, (∀ y0 y1 y2 y3, LeO (colophonref10_comment.l0 k y0 y1 y2 y3) (colophonref10_comment.l0 (k + 1) y0 y1 y2 y3)) ∧ (∀ y0 y1 y2 y3 y4, LeO (colophonref10_comment.j1 k y0 y1 y2 y3 y4) (colophonref10_comment.j1 (k + 1) y0 y1 y2 y3 y4))
  | 0 => ⟨fun _ _ _ _ r h => by simp [colophonref10_comment.l0] at h, fun _ _ _ _ _ r h => by simp [colophonref10_comment.j1] at h⟩
  | k + 1 => by
    obtain ⟨ih0, ih1⟩ := colophonref10_comment.mono_l k
    refine ⟨?_, ?_⟩
    · intro y0 y1 y2 y3
      unfold colophonref10_comment.l0
      repeat' first
      | (with_reducible exact ih0 _ _ _ _)
      | (with_reducible exact ih1 _ _ _ _ _)
      | (with_reducible exact LeO.refl _)
      | (with_reducible exact LeO.none _)
      | (with_reducible refine LeO.ite ?_ ?_)
      | (with_reducible refine LeO.bind ?_ (fun _ => ?_))
      | exact ih0 _ _ _ _
      | exact ih1 _ _ _ _ _
      | exact LeO.none _
      | refine LeO.ite ?_ ?_
      | refine LeO.bind ?_ (fun _ => ?_)
    · intro y0 y1 y2 y3 y4
      unfold colophonref10_comment.j1
      repeat' first
      | (with_reducible exact ih0 _ _ _ _)
      | (with_reducible exact ih1 _ _ _ _ _)
      | (with_reducible exact LeO.refl _)
      | (with_reducible exact LeO.none _)
      | (with_reducible refine LeO.ite ?_ ?_)
      | (with_reducible refine LeO.bind ?_ (fun _ => ?_))
      | exact ih0 _ _ _ _
      | exact ih1 _ _ _ _ _
      | exact LeO.none _
      | refine LeO.ite ?_ ?_
      | refine LeO.bind ?_ (fun _ => ?_)
theorem colophonref10_comment.mono : ∀ a0 a1 a2 k, LeO (colophonref10_comment.f k a0 a1 a2) (colophonref10_comment.f (k + 1) a0 a1 a2) := by
  intro a0 a1 a2 k
  obtain ⟨ih0, ih1⟩ := colophonref10_comment.mono_l k
  unfold colophonref10_comment.f
  repeat' first
      | (with_reducible exact ih0 _ _ _ _)
      | (with_reducible exact ih1 _ _ _ _ _)
      | (with_reducible exact LeO.refl _)
      | (with_reducible exact LeO.none _)
      | (with_reducible refine LeO.ite ?_ ?_)
      | (with_reducible refine LeO.bind ?_ (fun _ => ?_))
      | exact ih0 _ _ _ _
      | exact ih1 _ _ _ _ _
      | exact LeO.none _
      | refine LeO.ite ?_ ?_
      | refine LeO.bind ?_ (fun _ => ?_)
/-! ### colophonref04_Part: function 167 -/
def colophonref04_Part.f (k : Nat) (a0 : Int) : Option (Bool) := (colophonref04_Letter.f k a0).bind fun t211 => (if t211 = true then (some true) else ((colophonref04_in.f k a0 (([48, 57, 95, 95, 768, 879] : List Int))).bind fun t215 => (some t215)))
theorem colophonref04_Part.mono : ∀ a0 k, LeO (colophonref04_Part.f k a0) (colophonref04_Part.f (k + 1) a0) := by
  intro a0 k
  unfold colophonref04_Part.f
  repeat' first
      | (with_reducible exact colophonref04_Letter.mono _ _)
      | (with_reducible exact colophonref04_in.mono _ _ _)
      | (with_reducible exact LeO.refl _)
      | (with_reducible exact LeO.none _)
      | (with_reducible refine LeO.ite ?_ ?_)
      | (with_reducible refine LeO.bind ?_ (fun _ => ?_))
      | exact colophonref04_Letter.mono _ _
      | exact colophonref04_in.mono _ _ _
      | exact LeO.none _
      | refine LeO.ite ?_ ?_
      | refine LeO.bind ?_ (fun _ => ?_)
/-! ### colophonref10_row: function 134 -/
mutual
def colophonref10_row.l0 : Nat → ByteArray → Int → Int → Int → Option (Int × Int)
  | 0, _, _, _, _ => none
  | k + 1, x0, x1, x2, x7 => if x7 < (x0.size : Int) then ((colophonref01_Next.f x0 x7).bind fun bt217 => (if bt217.2.2 = true then ((colophonref04_Part.f k bt217.1).bind fun t220 => (colophonref10_row.j1 k x0 x1 x2 x7 bt217.2.1 t220)) else (colophonref10_row.j1 k x0 x1 x2 x7 bt217.2.1 false))) else (some (x7, 0))
def colophonref10_row.j1 : Nat → ByteArray → Int → Int → Int → Int → Bool → Option (Int × Int)
  | 0, _, _, _, _, _, _ => none
  | k + 1, x0, x1, x2, x7, x9, x11 => if x2 = 1 then (if x11 = true then (if x2 = 3 then (if 0 ≤ x7 then (if x7 < (x0.size : Int) then ((colophonref10_digit.f (bt x0 x7)).bind fun t221 => (colophonref10_row.j2 k x0 x1 x2 x7 x9 (!t221))) else (none)) else (none)) else (colophonref10_row.j2 k x0 x1 x2 x7 x9 false)) else (colophonref10_row.j2 k x0 x1 x2 x7 x9 true)) else (if x2 = 3 then (if 0 ≤ x7 then (if x7 < (x0.size : Int) then ((colophonref10_digit.f (bt x0 x7)).bind fun t222 => (colophonref10_row.j2 k x0 x1 x2 x7 x9 (!t222))) else (none)) else (none)) else (colophonref10_row.j2 k x0 x1 x2 x7 x9 false))
def colophonref10_row.j2 : Nat → ByteArray → Int → Int → Int → Int → Bool → Option (Int × Int)
  | 0, _, _, _, _, _, _ => none
  | k + 1, x0, x1, x2, x7, x9, x45 => if x45 = true then (some (x7, 0)) else (if (wrap64 ((wrap64 (x7 + x9)) - x1)) > 65535 then (some (x1, 103)) else (colophonref10_row.l0 k x0 x1 x2 (wrap64 (x7 + x9))))
end
def colophonref10_row.f (k : Nat) (a0 : ByteArray) (a1 : Int) (a2 : Int) : Option (Int × Int) := colophonref10_row.l0 k a0 a1 a2 a1
theorem colophonref10_row.mono_l : ∀ k, (∀ y0 y1 y2 y3, LeO (colophonref10_row.l0 k y0 y1 y2 y3) (colophonref10_row.l0 (k + 1) y0 y1 y2 y3)) ∧ (∀ y0 y1 y2 y3 y4 y5, LeO (colophonref10_row.j1 k y0 y1 y2 y3 y4 y5) (colophonref10_row.j1 (k + 1) y0 y1 y2 y3 y4 y5)) ∧ (∀ y0 y1 y2 y3 y4 y5, LeO (colophonref10_row.j2 k y0 y1 y2 y3 y4 y5) (colophonref10_row.j2 (k + 1) y0 y1 y2 y3 y4 y5))
  | 0 => ⟨fun _ _ _ _ r h => by simp [colophonref10_row.l0] at h, fun _ _ _ _ _ _ r h => by simp [colophonref10_row.j1] at h, fun _ _ _ _ _ _ r h => by simp [colophonref10_row.j2] at h⟩
  | k + 1 => by
    obtain ⟨ih0, ih1, ih2⟩ := colophonref10_row.mono_l k
    refine ⟨?_, ?_, ?_⟩
    · intro y0 y1 y2 y3
      unfold colophonref10_row.l0
      repeat' first
      | (with_reducible exact ih0 _ _ _ _)
      | (with_reducible exact ih1 _ _ _ _ _ _)
      | (with_reducible exact ih2 _ _ _ _ _ _)
      | (with_reducible exact colophonref04_Part.mono _ _)
      | (with_reducible exact LeO.refl _)
      | (with_reducible exact LeO.none _)
      | (with_reducible refine LeO.ite ?_ ?_)
      | (with_reducible refine LeO.bind ?_ (fun _ => ?_))
      | exact ih0 _ _ _ _
      | exact ih1 _ _ _ _ _ _
      | exact ih2 _ _ _ _ _ _
      | exact colophonref04_Part.mono _ _
      | exact LeO.none _
      | refine LeO.ite ?_ ?_
      | refine LeO.bind ?_ (fun _ => ?_)
    · intro y0 y1 y2 y3 y4 y5
      unfold colophonref10_row.j1
      repeat' first
      | (with_reducible exact ih0 _ _ _ _)
      | (with_reducible exact ih1 _ _ _ _ _ _)
      | (with_reducible exact ih2 _ _ _ _ _ _)
      | (with_reducible exact colophonref04_Part.mono _ _)
      | (with_reducible exact LeO.refl _)
      | (with_reducible exact LeO.none _)
      | (with_reducible refine LeO.ite ?_ ?_)
      | (with_reducible refine LeO.bind ?_ (fun _ => ?_))
      | exact ih0 _ _ _ _
      | exact ih1 _ _ _ _ _ _
      | exact ih2 _ _ _ _ _ _
      | exact colophonref04_Part.mono _ _
      | exact LeO.none _
      | refine LeO.ite ?_ ?_
      | refine LeO.bind ?_ (fun _ => ?_)
    · intro y0 y1 y2 y3 y4 y5
      unfold colophonref10_row.j2
      repeat' first
      | (with_reducible exact ih0 _ _ _ _)
      | (with_reducible exact ih1 _ _ _ _ _ _)
      | (with_reducible exact ih2 _ _ _ _ _ _)
      | (with_reducible exact colophonref04_Part.mono _ _)
      | (with_reducible exact LeO.refl _)
      | (with_reducible exact LeO.none _)
      | (with_reducible refine LeO.ite ?_ ?_)
      | (with_reducible refine LeO.bind ?_ (fun _ => ?_))
      | exact ih0 _ _ _ _
      | exact ih1 _ _ _ _ _ _
      | exact ih2 _ _ _ _ _ _
      | exact colophonref04_Part.mono _ _
      | exact LeO.none _
      | refine LeO.ite ?_ ?_
      | refine LeO.bind ?_ (fun _ => ?_)
theorem colophonref10_row.mono : ∀ a0 a1 a2 k, LeO (colophonref10_row.f k a0 a1 a2) (colophonref10_row.f (k + 1) a0 a1 a2) := by
  intro a0 a1 a2 k
  obtain ⟨ih0, ih1, ih2⟩ := colophonref10_row.mono_l k
  unfold colophonref10_row.f
  repeat' first
      | (with_reducible exact ih0 _ _ _ _)
      | (with_reducible exact ih1 _ _ _ _ _ _)
      | (with_reducible exact ih2 _ _ _ _ _ _)
      | (with_reducible exact colophonref04_Part.mono _ _)
      | (with_reducible exact LeO.refl _)
      | (with_reducible exact LeO.none _)
      | (with_reducible refine LeO.ite ?_ ?_)
      | (with_reducible refine LeO.bind ?_ (fun _ => ?_))
      | exact ih0 _ _ _ _
      | exact ih1 _ _ _ _ _ _
      | exact ih2 _ _ _ _ _ _
      | exact colophonref04_Part.mono _ _
      | exact LeO.none _
      | refine LeO.ite ?_ ?_
      | refine LeO.bind ?_ (fun _ => ?_)
/-! ### colophonref10_ends: function 87 -/
def colophonref10_ends.f (k : Nat) (a0 : ByteArray) (a1 : Int) (a2 : Int) : Option (Int × Int) := if a2 = 4 then ((colophonref10_quoted.f k a0 a1 34 false).bind fun bt224 => (some (bt224.1, bt224.2))) else (if a2 = 5 then ((colophonref10_quoted.f k a0 a1 39 true).bind fun bt226 => (some (bt226.1, bt226.2))) else (if a2 = 7 then ((colophonref10_comment.f k a0 a1 false).bind fun bt228 => (some (bt228.1, bt228.2))) else (if a2 = 8 then ((colophonref10_comment.f k a0 a1 true).bind fun bt230 => (some (bt230.1, bt230.2))) else (if a2 = 6 then ((colophonref04_Sign.f k a0 a1).bind fun t232 => (some (wrap64 (a1 + (t232.size : Int)), 0))) else ((colophonref10_row.f k a0 a1 a2).bind fun bt233 => (some (bt233.1, bt233.2)))))))
theorem colophonref10_ends.mono : ∀ a0 a1 a2 k, LeO (colophonref10_ends.f k a0 a1 a2) (colophonref10_ends.f (k + 1) a0 a1 a2) := by
  intro a0 a1 a2 k
  unfold colophonref10_ends.f
  repeat' first
      | (with_reducible exact colophonref04_Sign.mono _ _ _)
      | (with_reducible exact colophonref10_comment.mono _ _ _ _)
      | (with_reducible exact colophonref10_quoted.mono _ _ _ _ _)
      | (with_reducible exact colophonref10_row.mono _ _ _ _)
      | (with_reducible exact LeO.refl _)
      | (with_reducible exact LeO.none _)
      | (with_reducible refine LeO.ite ?_ ?_)
      | (with_reducible refine LeO.bind ?_ (fun _ => ?_))
      | exact colophonref04_Sign.mono _ _ _
      | exact colophonref10_comment.mono _ _ _ _
      | exact colophonref10_quoted.mono _ _ _ _ _
      | exact colophonref10_row.mono _ _ _ _
      | exact LeO.none _
      | refine LeO.ite ?_ ?_
      | refine LeO.bind ?_ (fun _ => ?_)
/-! ### colophonref04_Keys: function 135 -/
def colophonref04_Keys.f  : Option (List ByteArray) := some (([(⟨#[97, 110, 100]⟩ : ByteArray), (⟨#[97, 114, 114, 97, 121]⟩ : ByteArray), (⟨#[98, 101, 103, 105, 110]⟩ : ByteArray), (⟨#[99, 111, 110, 115, 116]⟩ : ByteArray), (⟨#[100, 111]⟩ : ByteArray), (⟨#[101, 108, 105, 102]⟩ : ByteArray), (⟨#[101, 108, 115, 101]⟩ : ByteArray), (⟨#[101, 110, 100]⟩ : ByteArray), (⟨#[102, 111, 114]⟩ : ByteArray), (⟨#[105, 102]⟩ : ByteArray), (⟨#[110, 111, 116]⟩ : ByteArray), (⟨#[111, 102]⟩ : ByteArray), (⟨#[111, 114]⟩ : ByteArray), (⟨#[112, 114, 111, 99]⟩ : ByteArray), (⟨#[112, 114, 111, 103, 114, 97, 109]⟩ : ByteArray), (⟨#[114, 101, 99, 111, 114, 100]⟩ : ByteArray), (⟨#[114, 101, 112, 101, 97, 116]⟩ : ByteArray), (⟨#[114, 101, 116, 117, 114, 110]⟩ : ByteArray), (⟨#[115, 107, 105, 112]⟩ : ByteArray), (⟨#[116, 104, 101, 110]⟩ : ByteArray), (⟨#[116, 111]⟩ : ByteArray), (⟨#[117, 110, 116, 105, 108]⟩ : ByteArray), (⟨#[118, 97, 114]⟩ : ByteArray), (⟨#[119, 104, 105, 108, 101]⟩ : ByteArray)] : List ByteArray))
end Go.Proofs.YtdphhmigbbgjmaaDoor.PScan
