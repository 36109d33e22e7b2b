/- Printed by a program of this session (wip/xprint.py) over the kit's print, with contracts of this session's own: scan, its reference, its laws. -/
import Derived.Test.YtdphhmigbbgjmaaDoorPScan0
import Derived.Test.YtdphhmigbbgjmaaDoorPScan6
import Derived.Test.YtdphhmigbbgjmaaDoorPScan7
import Derived.Test.YtdphhmigbbgjmaaDoorPScan8
namespace Go.Proofs.YtdphhmigbbgjmaaDoor.PScan
open Go.RowKit Go.Proofs.YtdphhmigbbgjmaaDoorW.PrintWords Go.Proofs.YtdphhmigbbgjmaaDoorW.PrintLast Go.Proofs.YtdphhmigbbgjmaaDoorW.PrintMore
attribute [local go_sem] max2_int min2_int max_two min_two max_three min_three max_four min_four   -- for this text's walks alone
set_option linter.unusedVariables false
set_option linter.unusedSimpArgs false
attribute [local go_sem ↓] cutS_in

/-! ### colophonref10_Find: function 41 -/
mutual
def colophonref10_Find.l0 : Nat → ByteArray → Int → Int → List (S35) → Int → Int → Int → Int → Int → Option ((List (S35)) × Int × Int)
  | 0, _, _, _, _, _, _, _, _, _ => none
  | k + 1, x0, x5, x6, x244000, x244001, x244002, x245000, x245001, x245002 => if x6 < (x0.size : Int) then (if 0 ≤ x6 then (if (bt x0 x6) = 10 then (colophonref10_Find.j1 k x0 (wrap64 (x5 + 1)) x6 x244000 x244001 x244002 x245000 x245001 x245002) else (colophonref10_Find.j1 k x0 x5 x6 x244000 x244001 x244002 x245000 x245001 x245002)) else (none)) else (some (x244000, x244001, x244002))
def colophonref10_Find.j1 : Nat → ByteArray → Int → Int → List (S35) → Int → Int → Int → Int → Int → Option ((List (S35)) × Int × Int)
  | 0, _, _, _, _, _, _, _, _, _ => none
  | k + 1, x0, x5, x6, x244000, x244001, x244002, x245000, x245001, x245002 => if 0 ≤ x6 then (if x6 < (x0.size : Int) then (if (bt x0 x6) = 10 then (colophonref10_Find.j2 k x0 x5 x6 true x244000 x244001 x244002 x245000 x245001 x245002) else ((colophonref10_blank.f (bt x0 x6)).bind fun t245 => (colophonref10_Find.j2 k x0 x5 x6 t245 x244000 x244001 x244002 x245000 x245001 x245002))) else (none)) else (none)
def colophonref10_Find.j2 : Nat → ByteArray → Int → Int → Bool → List (S35) → Int → Int → Int → Int → Int → Option ((List (S35)) × Int × Int)
  | 0, _, _, _, _, _, _, _, _, _, _ => none
  | k + 1, x0, x5, x6, x32, x244000, x244001, x244002, x245000, x245001, x245002 => if x32 = true then (colophonref10_Find.l0 k x0 x5 (wrap64 (x6 + 1)) x244000 x244001 x244002 x245000 x245001 x245002) else ((colophonref10_begins.f k x0 x6).bind fun t246 => (if t246 = 0 then (some (x244000, 100, x6)) else ((colophonref10_ends.f k x0 x6 t246).bind fun bt247 => (if bt247.2 = 0 then (if 0 ≤ x245000 then (if x245000 ≤ x6 then (if x6 ≤ (x0.size : Int) then ((colophonref03_Advance.f x245000 x245001 x245002 (cutS x0 (x245000 : Int).toNat (x6 : Int).toNat)).bind fun bt250 => (if 0 ≤ x6 then (if x6 ≤ bt247.1 then (if bt247.1 ≤ (x0.size : Int) then ((colophonref04_IsKey.f k (cutS x0 (x6 : Int).toNat (bt247.1 : Int).toNat)).bind fun t254 => (if t246 = 1 then (colophonref10_Find.j3 k x0 t246 t254 x244000 x244001 x244002 bt250.1 bt250.2.1 bt250.2.2 bt247.1 bt247.2 t246 (cutS x0 (x6 : Int).toNat (bt247.1 : Int).toNat) bt250.1 bt250.2.1 bt250.2.2 x5) else (colophonref10_Find.j3 k x0 t246 false x244000 x244001 x244002 bt250.1 bt250.2.1 bt250.2.2 bt247.1 bt247.2 t246 (cutS x0 (x6 : Int).toNat (bt247.1 : Int).toNat) bt250.1 bt250.2.1 bt250.2.2 x5))) else (none)) else (none)) else (none))) else (none)) else (none)) else (none)) else (some (x244000, bt247.2, bt247.1))))))
def colophonref10_Find.j3 : Nat → ByteArray → Int → Bool → List (S35) → Int → Int → Int → Int → Int → Int → Int → Int → ByteArray → Int → Int → Int → Int → Option ((List (S35)) × Int × Int)
  | 0, _, _, _, _, _, _, _, _, _, _, _, _, _, _, _, _, _ => none
  | k + 1, x0, x7, x81, x244000, x244001, x244002, x245000, x245001, x245002, x250000, x250001, x254000, x254001, x254002, x254003, x254004, x254005 => if x81 = true then (colophonref10_Find.j4 k x0 x7 x244000 x244001 x244002 x245000 x245001 x245002 x250000 x250001 2 x254001 x254002 x254003 x254004 x254005) else (colophonref10_Find.j4 k x0 x7 x244000 x244001 x244002 x245000 x245001 x245002 x250000 x250001 x254000 x254001 x254002 x254003 x254004 x254005)
def colophonref10_Find.j4 : Nat → ByteArray → Int → List (S35) → Int → Int → Int → Int → Int → Int → Int → Int → ByteArray → Int → Int → Int → Int → Option ((List (S35)) × Int × Int)
  | 0, _, _, _, _, _, _, _, _, _, _, _, _, _, _, _, _ => none
  | k + 1, x0, x7, x244000, x244001, x244002, x245000, x245001, x245002, x250000, x250001, x254000, x254001, x254002, x254003, x254004, x254005 => colophonref10_Find.l1 k x0 x7 x244000 x244001 x244002 x245000 x245001 x245002 x250000 x250001 x254000 x254001 x254002 x254003 x254004 x254005
def colophonref10_Find.l1 : Nat → ByteArray → Int → List (S35) → Int → Int → Int → Int → Int → Int → Int → Int → ByteArray → Int → Int → Int → Int → Option ((List (S35)) × Int × Int)
  | 0, _, _, _, _, _, _, _, _, _, _, _, _, _, _, _, _ => none
  | k + 1, x0, x7, x244000, x244001, x244002, x245000, x245001, x245002, x250000, x250001, x254000, x254001, x254002, x254003, x254004, x254005 => if x7 = 7 then (if 0 ≤ (wrap64 ((x254001.size : Int) - 1)) then (if (wrap64 ((x254001.size : Int) - 1)) < (x254001.size : Int) then ((colophonref10_blank.f (bt x254001 (wrap64 ((x254001.size : Int) - 1)))).bind fun t255 => (if t255 = true then (if (wrap64 ((x254001.size : Int) - 1)) ≤ (x254001.size : Int) then (colophonref10_Find.l1 k x0 x7 x244000 x244001 x244002 x245000 x245001 x245002 x250000 x250001 x254000 (cutS x254001 0 ((wrap64 ((x254001.size : Int) - 1)) : Int).toNat) x254002 x254003 x254004 x254005) else (none)) else (if x244000.length < 2513169434916 then (colophonref10_Find.l0 k x0 0 x250000 (x244000 ++ [(⟨x254000, x254001, (⟨x254002, x254003, x254004⟩ : S26), x254005⟩ : S35)]) x244001 x244002 x245000 x245001 x245002) else (none)))) else (none)) else (none)) else (if x244000.length < 2513169434916 then (colophonref10_Find.l0 k x0 0 x250000 (x244000 ++ [(⟨x254000, x254001, (⟨x254002, x254003, x254004⟩ : S26), x254005⟩ : S35)]) x244001 x244002 x245000 x245001 x245002) else (none))
end
def colophonref10_Find.f (k : Nat) (a0 : ByteArray) : Option ((List (S35)) × Int × Int) := colophonref10_Find.l0 k a0 0 0 ([] : List (S35)) 0 0 0 1 1
theorem colophonref10_Find.mono_l : ∀ k, (∀ y0 y1 y2 y3 y4 y5 y6 y7 y8, LeO (colophonref10_Find.l0 k y0 y1 y2 y3 y4 y5 y6 y7 y8) (colophonref10_Find.l0 (k + 1) y0 y1 y2 y3 y4 y5 y6 y7 y8)) ∧ (∀ y0 y1 y2 y3 y4 y5 y6 y7 y8, LeO (colophonref10_Find.j1 k y0 y1 y2 y3 y4 y5 y6 y7 y8) (colophonref10_Find.j1 (k + 1) y0 y1 y2 y3 y4 y5 y6 y7 y8)) ∧ (∀ y0 y1 y2 y3 y4 y5 y6 y7 y8 y9, LeO (colophonref10_Find.j2 k y0 y1 y2 y3 y4 y5 y6 y7 y8 y9) (colophonref10_Find.j2 (k + 1) y0 y1 y2 y3 y4 y5 y6 y7 y8 y9)) ∧ (∀ y0 y1 y2 y3 y4 y5 y6 y7 y8 y9 y10 y11 y12 y13 y14 y15 y16, LeO (colophonref10_Find.j3 k y0 y1 y2 y3 y4 y5 y6 y7 y8 y9 y10 y11 y12 y13 y14 y15 y16) (colophonref10_Find.j3 (k + 1) y0 y1 y2 y3 y4 y5 y6 y7 y8 y9 y10 y11 y12 y13 y14 y15 y16)) ∧ (∀ y0 y1 y2 y3 y4 y5 y6 y7 y8 y9 y10 y11 y12 y13 y14 y15, LeO (colophonref10_Find.j4 k y0 y1 y2 y3 y4 y5 y6 y7 y8 y9 y10 y11 y12 y13 y14 y15) (colophonref10_Find.j4 (k + 1) y0 y1 y2 y3 y4 y5 y6 y7 y8 y9 y10 y11 y12 y13 y14 y15)) ∧ (∀ y0 y1 y2 y3 y4 y5 y6 y7 y8 y9 y10 y11 y12 y13 y14 y15, LeO (colophonref10_Find.l1 k y0 y1 y2 y3 y4 y5 y6 y7 y8 y9 y10 y11 y12 y13 y14 y15) (colophonref10_Find.l1 (k + 1) y0 y1 y2 y3 y4 y5 y6 y7 y8 y9 y10 y11 y12 y13 y14 y15))
  | 0 => ⟨fun _ _ _ _ _ _ _ _ _ r h => by simp [colophonref10_Find.l0] at h, fun _ _ _ _ _ _ _ _ _ r h => by simp [colophonref10_Find.j1] at h, fun _ _ _ _ _ _ _ _ _ _ r h => by simp [colophonref10_Find.j2] at h, fun _ _ _ _ _ _ _ _ _ _ _ _ _ _ _ _ _ r h => by simp [colophonref10_Find.j3] at h, fun _ _ _ _ _ _ _ _ _ _ _ _ _ _ _ _ r h => by simp [colophonref10_Find.j4] at h, fun _ _ _ _ _ _ _ _ _ _ _ _ _ _ _ _ r h => by simp [colophonref10_Find.l1] at h⟩
  | k + 1 => by
    obtain ⟨ih0, ih1, ih2, ih3, ih4, ih5⟩ := colophonref10_Find.mono_l k
    refine ⟨?_, ?_, ?_, ?_, ?_, ?_⟩
    · intro y0 y1 y2 y3 y4 y5 y6 y7 y8
      unfold colophonref10_Find.l0
      repeat' first
      | (with_reducible exact ih0 _ _ _ _ _ _ _ _ _)
      | (with_reducible exact ih1 _ _ _ _ _ _ _ _ _)
      | (with_reducible exact ih2 _ _ _ _ _ _ _ _ _ _)
      | (with_reducible exact ih3 _ _ _ _ _ _ _ _ _ _ _ _ _ _ _ _ _)
      | (with_reducible exact ih4 _ _ _ _ _ _ _ _ _ _ _ _ _ _ _ _)
      | (with_reducible exact ih5 _ _ _ _ _ _ _ _ _ _ _ _ _ _ _ _)
      | (with_reducible exact colophonref04_IsKey.mono _ _)
      | (with_reducible exact colophonref10_begins.mono _ _ _)
      | (with_reducible exact colophonref10_ends.mono _ _ _ _)
      | (with_reducible exact LeO.refl _)
      | (with_reducible exact LeO.none _)
      | (with_reducible refine LeO.ite ?_ ?_)
      | (with_reducible refine LeO.bind ?_ (fun _ => ?_))
      | exact ih0 _ _ _ _ _ _ _ _ _
      | exact ih1 _ _ _ _ _ _ _ _ _
      | exact ih2 _ _ _ _ _ _ _ _ _ _
      | exact ih3 _ _ _ _ _ _ _ _ _ _ _ _ _ _ _ _ _
      | exact ih4 _ _ _ _ _ _ _ _ _ _ _ _ _ _ _ _
      | exact ih5 _ _ _ _ _ _ _ _ _ _ _ _ _ _ _ _
      | exact colophonref04_IsKey.mono _ _
      | exact colophonref10_begins.mono _ _ _
      | exact colophonref10_ends.mono _ _ _ _
      | exact LeO.none _
      | refine LeO.ite ?_ ?_
      | refine LeO.bind ?_ (fun _ => ?_)
    · intro y0 y1 y2 y3 y4 y5 y6 y7 y8
      unfold colophonref10_Find.j1
      repeat' first
      | (with_reducible exact ih0 _ _ _ _ _ _ _ _ _)
      | (with_reducible exact ih1 _ _ _ _ _ _ _ _ _)
      | (with_reducible exact ih2 _ _ _ _ _ _ _ _ _ _)
      | (with_reducible exact ih3 _ _ _ _ _ _ _ _ _ _ _ _ _ _ _ _ _)
      | (with_reducible exact ih4 _ _ _ _ _ _ _ _ _ _ _ _ _ _ _ _)
      | (with_reducible exact ih5 _ _ _ _ _ _ _ _ _ _ _ _ _ _ _ _)
      | (with_reducible exact colophonref04_IsKey.mono _ _)
      | (with_reducible exact colophonref10_begins.mono _ _ _)
      | (with_reducible exact colophonref10_ends.mono _ _ _ _)
      | (with_reducible exact LeO.refl _)
      | (with_reducible exact LeO.none _)
      | (with_reducible refine LeO.ite ?_ ?_)
      | (with_reducible refine LeO.bind ?_ (fun _ => ?_))
      | exact ih0 _ _ _ _ _ _ _ _ _
      | exact ih1 _ _ _ _ _ _ _ _ _
      | exact ih2 _ _ _ _ _ _ _ _ _ _
      | exact ih3 _ _ _ _ _ _ _ _ _ _ _ _ _ _ _ _ _
      | exact ih4 _ _ _ _ _ _ _ _ _ _ _ _ _ _ _ _
      | exact ih5 _ _ _ _ _ _ _ _ _ _ _ _ _ _ _ _
      | exact colophonref04_IsKey.mono _ _
      | exact colophonref10_begins.mono _ _ _
      | exact colophonref10_ends.mono _ _ _ _
      | exact LeO.none _
      | refine LeO.ite ?_ ?_
      | refine LeO.bind ?_ (fun _ => ?_)
    · intro y0 y1 y2 y3 y4 y5 y6 y7 y8 y9
      unfold colophonref10_Find.j2
      repeat' first
      | (with_reducible exact ih0 _ _ _ _ _ _ _ _ _)
      | (with_reducible exact ih1 _ _ _ _ _ _ _ _ _)
      | (with_reducible exact ih2 _ _ _ _ _ _ _ _ _ _)
      | (with_reducible exact ih3 _ _ _ _ _ _ _ _ _ _ _ _ _ _ _ _ _)
      | (with_reducible exact ih4 _ _ _ _ _ _ _ _ _ _ _ _ _ _ _ _)
      | (with_reducible exact ih5 _ _ _ _ _ _ _ _ _ _ _ _ _ _ _ _)
      | (with_reducible exact colophonref04_IsKey.mono _ _)
      | (with_reducible exact colophonref10_begins.mono _ _ _)
      | (with_reducible exact colophonref10_ends.mono _ _ _ _)
      | (with_reducible exact LeO.refl _)
      | (with_reducible exact LeO.none _)
      | (with_reducible refine LeO.ite ?_ ?_)
      | (with_reducible refine LeO.bind ?_ (fun _ => ?_))
      | exact ih0 _ _ _ _ _ _ _ _ _
      | exact ih1 _ _ _ _ _ _ _ _ _
      | exact ih2 _ _ _ _ _ _ _ _ _ _
      | exact ih3 _ _ _ _ _ _ _ _ _ _ _ _ _ _ _ _ _
      | exact ih4 _ _ _ _ _ _ _ _ _ _ _ _ _ _ _ _
      | exact ih5 _ _ _ _ _ _ _ _ _ _ _ _ _ _ _ _
      | exact colophonref04_IsKey.mono _ _
      | exact colophonref10_begins.mono _ _ _
      | exact colophonref10_ends.mono _ _ _ _
      | exact LeO.none _
      | refine LeO.ite ?_ ?_
      | refine LeO.bind ?_ (fun _ => ?_)
    · intro y0 y1 y2 y3 y4 y5 y6 y7 y8 y9 y10 y11 y12 y13 y14 y15 y16
      unfold colophonref10_Find.j3
      repeat' first
      | (with_reducible exact ih0 _ _ _ _ _ _ _ _ _)
      | (with_reducible exact ih1 _ _ _ _ _ _ _ _ _)
      | (with_reducible exact ih2 _ _ _ _ _ _ _ _ _ _)
      | (with_reducible exact ih3 _ _ _ _ _ _ _ _ _ _ _ _ _ _ _ _ _)
      | (with_reducible exact ih4 _ _ _ _ _ _ _ _ _ _ _ _ _ _ _ _)
      | (with_reducible exact ih5 _ _ _ _ _ _ _ _ _ _ _ _ _ _ _ _)
      | (with_reducible exact colophonref04_IsKey.mono _ _)
      | (with_reducible exact colophonref10_begins.mono _ _ _)
      | (with_reducible exact colophonref10_ends.mono _ _ _ _)
      | (with_reducible exact LeO.refl _)
      | (with_reducible exact LeO.none _)
      | (with_reducible refine LeO.ite ?_ ?_)
      | (with_reducible refine LeO.bind ?_ (fun _ => ?_))
      | exact ih0 _ _ _ _ _ _ _ _ _
      | exact ih1 _ _ _ _ _ _ _ _ _
      | exact ih2 _ _ _ _ _ _ _ _ _ _
      | exact ih3 _ _ _ _ _ _ _ _ _ _ _ _ _ _ _ _ _
      | exact ih4 _ _ _ _ _ _ _ _ _ _ _ _ _ _ _ _
      | exact ih5 _ _ _ _ _ _ _ _ _ _ _ _ _ _ _ _
      | exact colophonref04_IsKey.mono _ _
      | exact colophonref10_begins.mono _ _ _
      | exact colophonref10_ends.mono _ _ _ _
      | exact LeO.none _
      | refine LeO.ite ?_ ?_
      | refine LeO.bind ?_ (fun _ => ?_)
    · intro y0 y1 y2 y3 y4 y5 y6 y7 y8 y9 y10 y11 y12 y13 y14 y15
      unfold colophonref10_Find.j4
      repeat' first
      | (with_reducible exact ih0 _ _ _ _ _ _ _ _ _)
      | (with_reducible exact ih1 _ _ _ _ _ _ _ _ _)
      | (with_reducible exact ih2 _ _ _ _ _ _ _ _ _ _)
      | (with_reducible exact ih3 _ _ _ _ _ _ _ _ _ _ _ _ _ _ _ _ _)
      | (with_reducible exact ih4 _ _ _ _ _ _ _ _ _ _ _ _ _ _ _ _)
      | (with_reducible exact ih5 _ _ _ _ _ _ _ _ _ _ _ _ _ _ _ _)
      | (with_reducible exact colophonref04_IsKey.mono _ _)
      | (with_reducible exact colophonref10_begins.mono _ _ _)
      | (with_reducible exact colophonref10_ends.mono _ _ _ _)
      | (with_reducible exact LeO.refl _)
      | (with_reducible exact LeO.none _)
      | (with_reducible refine LeO.ite ?_ ?_)
      | (with_reducible refine LeO.bind ?_ (fun _ => ?_))
      | exact ih0 _ _ _ _ _ _ _ _ _
      | exact ih1 _ _ _ _ _ _ _ _ _
      | exact ih2 _ _ _ _ _ _ _ _ _ _
      | exact ih3 _ _ _ _ _ _ _ _ _ _ _ _ _ _ _ _ _
      | exact ih4 _ _ _ _ _ _ _ _ _ _ _ _ _ _ _ _
      | exact ih5 _ _ _ _ _ _ _ _ _ _ _ _ _ _ _ _
      | exact colophonref04_IsKey.mono _ _
      | exact colophonref10_begins.mono _ _ _
      | exact colophonref10_ends.mono _ _ _ _
      | exact LeO.none _
      | refine LeO.ite ?_ ?_
      | refine LeO.bind ?_ (fun _ => ?_)
    · intro y0 y1 y2 y3 y4 y5 y6 y7 y8 y9 y10 y11 y12 y13 y14 y15
      unfold colophonref10_Find.l1
      repeat' first
      | (with_reducible exact ih0 _ _ _ _ _ _ _ _ _)
      | (with_reducible exact ih1 _ _ _ _ _ _ _ _ _)
      | (with_reducible exact ih2 _ _ _ _ _ _ _ _ _ _)
      | (with_reducible exact ih3 _ _ _ _ _ _ _ _ _ _ _ _ _ _ _ _ _)
      | (with_reducible exact ih4 _ _ _ _ _ _ _ _ _ _ _ _ _ _ _ _)
      | (with_reducible exact ih5 _ _ _ _ _ _ _ _ _ _ _ _ _ _ _ _)
      | (with_reducible exact colophonref04_IsKey.mono _ _)
      | (with_reducible exact colophonref10_begins.mono _ _ _)
      | (with_reducible exact colophonref10_ends.mono _ _ _ _)
      | (with_reducible exact LeO.refl _)
      | (with_reducible exact LeO.none _)
      | (with_reducible refine LeO.ite ?_ ?_)
      | (with_reducible refine LeO.bind ?_ (fun _ => ?_))
      | exact ih0 _ _ _ _ _ _ _ _ _
      | exact ih1 _ _ _ _ _ _ _ _ _
      | exact ih2 _ _ _ _ _ _ _ _ _ _
      | exact ih3 _ _ _ _ _ _ _ _ _ _ _ _ _ _ _ _ _
      | exact ih4 _ _ _ _ _ _ _ _ _ _ _ _ _ _ _ _
      | exact ih5 _ _ _ _ _ _ _ _ _ _ _ _ _ _ _ _
      | exact colophonref04_IsKey.mono _ _
      | exact colophonref10_begins.mono _ _ _
      | exact colophonref10_ends.mono _ _ _ _
      | exact LeO.none _
      | refine LeO.ite ?_ ?_
      | refine LeO.bind ?_ (fun _ => ?_)
theorem colophonref10_Find.mono : ∀ a0 k, LeO (colophonref10_Find.f k a0) (colophonref10_Find.f (k + 1) a0) := by
  intro a0 k
  obtain ⟨ih0, ih1, ih2, ih3, ih4, ih5⟩ := colophonref10_Find.mono_l k
  unfold colophonref10_Find.f
  repeat' first
      | (with_reducible exact ih0 _ _ _ _ _ _ _ _ _)
      | (with_reducible exact ih1 _ _ _ _ _ _ _ _ _)
      | (with_reducible exact ih2 _ _ _ _ _ _ _ _ _ _)
      | (with_reducible exact ih3 _ _ _ _ _ _ _ _ _ _ _ _ _ _ _ _ _)
      | (with_reducible exact ih4 _ _ _ _ _ _ _ _ _ _ _ _ _ _ _ _)
      | (with_reducible exact ih5 _ _ _ _ _ _ _ _ _ _ _ _ _ _ _ _)
      | (with_reducible exact colophonref04_IsKey.mono _ _)
      | (with_reducible exact colophonref10_begins.mono _ _ _)
      | (with_reducible exact colophonref10_ends.mono _ _ _ _)
      | (with_reducible exact LeO.refl _)
      | (with_reducible exact LeO.none _)
      | (with_reducible refine LeO.ite ?_ ?_)
      | (with_reducible refine LeO.bind ?_ (fun _ => ?_))
      | exact ih0 _ _ _ _ _ _ _ _ _
      | exact ih1 _ _ _ _ _ _ _ _ _
      | exact ih2 _ _ _ _ _ _ _ _ _ _
      | exact ih3 _ _ _ _ _ _ _ _ _ _ _ _ _ _ _ _ _
      | exact ih4 _ _ _ _ _ _ _ _ _ _ _ _ _ _ _ _
      | exact ih5 _ _ _ _ _ _ _ _ _ _ _ _ _ _ _ _
      | exact colophonref04_IsKey.mono _ _
      | exact colophonref10_begins.mono _ _ _
      | exact colophonref10_ends.mono _ _ _ _
      | exact LeO.none _
      | refine LeO.ite ?_ ?_
      | refine LeO.bind ?_ (fun _ => ?_)
def colophonref10_Find.T20 : Bool × List (List Nat × List Nat) := (true, [([], []), ([], []), ([], []), ([2], [2]), ([], []), ([1, 3, 4], [1, 3, 4]), ([0, 5], [0, 5]), ([6, 6, 0, 1, 2, 3, 4, 5, 6], [6])])
def colophonref10_Find.B20 : List Nat := [0, 0, 0, 4, 0, 30, 63, 127]
def colophonref10_Find.T21 : Bool × List (List Nat × List Nat) := (true, [([], []), ([], []), ([], []), ([], []), ([3], [3]), ([1, 2, 4], [1, 2, 4]), ([], []), ([], []), ([0, 5, 6, 7], [0, 5, 6, 7]), ([], []), ([9, 8, 0, 1, 2, 3, 4, 5, 6, 7, 8, 9], [8, 9])])
def colophonref10_Find.B21 : List Nat := [0, 0, 0, 0, 8, 30, 0, 0, 255, 0, 1023]
end Go.Proofs.YtdphhmigbbgjmaaDoor.PScan
