/- Printed by a program of this session (wip/xprint.py) over the kit's print, with contracts of this session's own: scan, its reference, its laws. -/
import Derived.Test.YtdphhmigbbgjmaaGreatDoorPScan0
import Derived.Test.YtdphhmigbbgjmaaGreatDoorPScan5
import Derived.Test.YtdphhmigbbgjmaaGreatDoorPScan6
import Derived.Test.YtdphhmigbbgjmaaGreatDoorPScan7
namespace Go.Proofs.YtdphhmigbbgjmaaGreatDoor.PScan
open Go.RowKit Go.Proofs.YtdphhmigbbgjmaaGreatDoorW.PrintWords Go.Proofs.YtdphhmigbbgjmaaGreatDoorW.PrintLast Go.Proofs.YtdphhmigbbgjmaaGreatDoorW.PrintMore
attribute [local go_sem] max2_int min2_int max_two min_two max_three min_three max_four min_four   -- for this text's walks alone
set_option linter.unusedVariables false
set_option linter.unusedSimpArgs false
attribute [local go_sem ↓] cutS_in

/-! ### colophonref10_Find: function 20 -/
mutual
def colophonref10_Find.l0 : Nat → ByteArray → Int → Int → List (S48) → Int → Int → Int → Int → Int → Option ((List (S48)) × Int × Int)
  | 0, _, _, _, _, _, _, _, _, _ => none
  | k + 1, x0, x5, x6, x222000, x222001, x222002, x223000, x223001, x223002 => if x6 < (x0.size : Int) then (if 0 ≤ x6 then (if (bt x0 x6) = 10 then (colophonref10_Find.j1 k x0 (wrap64 (x5 + 1)) x6 x222000 x222001 x222002 x223000 x223001 x223002) else (colophonref10_Find.j1 k x0 x5 x6 x222000 x222001 x222002 x223000 x223001 x223002)) else (none)) else (some (x222000, x222001, x222002))
def colophonref10_Find.j1 : Nat → ByteArray → Int → Int → List (S48) → Int → Int → Int → Int → Int → Option ((List (S48)) × Int × Int)
  | 0, _, _, _, _, _, _, _, _, _ => none
  | k + 1, x0, x5, x6, x222000, x222001, x222002, x223000, x223001, x223002 => if 0 ≤ x6 then (if x6 < (x0.size : Int) then (if (bt x0 x6) = 10 then (colophonref10_Find.j2 k x0 x5 x6 true x222000 x222001 x222002 x223000 x223001 x223002) else ((colophonref10_blank.f (bt x0 x6)).bind fun t223 => (colophonref10_Find.j2 k x0 x5 x6 t223 x222000 x222001 x222002 x223000 x223001 x223002))) else (none)) else (none)
def colophonref10_Find.j2 : Nat → ByteArray → Int → Int → Bool → List (S48) → Int → Int → Int → Int → Int → Option ((List (S48)) × Int × Int)
  | 0, _, _, _, _, _, _, _, _, _, _ => none
  | k + 1, x0, x5, x6, x32, x222000, x222001, x222002, x223000, x223001, x223002 => if x32 = true then (colophonref10_Find.l0 k x0 x5 (wrap64 (x6 + 1)) x222000 x222001 x222002 x223000 x223001 x223002) else ((colophonref10_begins.f k x0 x6).bind fun t224 => (if t224 = 0 then (some (x222000, 100, x6)) else ((colophonref10_ends.f k x0 x6 t224).bind fun bt225 => (if bt225.2 = 0 then (if 0 ≤ x223000 then (if x223000 ≤ x6 then (if x6 ≤ (x0.size : Int) then ((colophonref03_Advance.f x223000 x223001 x223002 (cutS x0 (x223000 : Int).toNat (x6 : Int).toNat)).bind fun bt228 => (if 0 ≤ x6 then (if x6 ≤ bt225.1 then (if bt225.1 ≤ (x0.size : Int) then ((colophonref04_IsKey.f k (cutS x0 (x6 : Int).toNat (bt225.1 : Int).toNat)).bind fun t232 => (if t224 = 1 then (colophonref10_Find.j3 k x0 t224 t232 x222000 x222001 x222002 bt228.1 bt228.2.1 bt228.2.2 bt225.1 bt225.2 t224 (cutS x0 (x6 : Int).toNat (bt225.1 : Int).toNat) bt228.1 bt228.2.1 bt228.2.2 x5) else (colophonref10_Find.j3 k x0 t224 false x222000 x222001 x222002 bt228.1 bt228.2.1 bt228.2.2 bt225.1 bt225.2 t224 (cutS x0 (x6 : Int).toNat (bt225.1 : Int).toNat) bt228.1 bt228.2.1 bt228.2.2 x5))) else (none)) else (none)) else (none))) else (none)) else (none)) else (none)) else (some (x222000, bt225.2, bt225.1))))))
def colophonref10_Find.j3 : Nat → ByteArray → Int → Bool → List (S48) → Int → Int → Int → Int → Int → Int → Int → Int → ByteArray → Int → Int → Int → Int → Option ((List (S48)) × Int × Int)
  | 0, _, _, _, _, _, _, _, _, _, _, _, _, _, _, _, _, _ => none
  | k + 1, x0, x7, x81, x222000, x222001, x222002, x223000, x223001, x223002, x228000, x228001, x232000, x232001, x232002, x232003, x232004, x232005 => if x81 = true then (colophonref10_Find.j4 k x0 x7 x222000 x222001 x222002 x223000 x223001 x223002 x228000 x228001 2 x232001 x232002 x232003 x232004 x232005) else (colophonref10_Find.j4 k x0 x7 x222000 x222001 x222002 x223000 x223001 x223002 x228000 x228001 x232000 x232001 x232002 x232003 x232004 x232005)
def colophonref10_Find.j4 : Nat → ByteArray → Int → List (S48) → Int → Int → Int → Int → Int → Int → Int → Int → ByteArray → Int → Int → Int → Int → Option ((List (S48)) × Int × Int)
  | 0, _, _, _, _, _, _, _, _, _, _, _, _, _, _, _, _ => none
  | k + 1, x0, x7, x222000, x222001, x222002, x223000, x223001, x223002, x228000, x228001, x232000, x232001, x232002, x232003, x232004, x232005 => colophonref10_Find.l1 k x0 x7 x222000 x222001 x222002 x223000 x223001 x223002 x228000 x228001 x232000 x232001 x232002 x232003 x232004 x232005
def colophonref10_Find.l1 : Nat → ByteArray → Int → List (S48) → Int → Int → Int → Int → Int → Int → Int → Int → ByteArray → Int → Int → Int → Int → Option ((List (S48)) × Int × Int)
  | 0, _, _, _, _, _, _, _, _, _, _, _, _, _, _, _, _ => none
  | k + 1, x0, x7, x222000, x222001, x222002, x223000, x223001, x223002, x228000, x228001, x232000, x232001, x232002, x232003, x232004, x232005 => if x7 = 7 then (if 0 ≤ (wrap64 ((x232001.size : Int) - 1)) then (if (wrap64 ((x232001.size : Int) - 1)) < (x232001.size : Int) then ((colophonref10_blank.f (bt x232001 (wrap64 ((x232001.size : Int) - 1)))).bind fun t233 => (if t233 = true then (if (wrap64 ((x232001.size : Int) - 1)) ≤ (x232001.size : Int) then (colophonref10_Find.l1 k x0 x7 x222000 x222001 x222002 x223000 x223001 x223002 x228000 x228001 x232000 (cutS x232001 0 ((wrap64 ((x232001.size : Int) - 1)) : Int).toNat) x232002 x232003 x232004 x232005) else (none)) else (if x222000.length < 2513169434916 then (colophonref10_Find.l0 k x0 0 x228000 (x222000 ++ [(⟨x232000, x232001, (⟨x232002, x232003, x232004⟩ : S26), x232005⟩ : S48)]) x222001 x222002 x223000 x223001 x223002) else (none)))) else (none)) else (none)) else (if x222000.length < 2513169434916 then (colophonref10_Find.l0 k x0 0 x228000 (x222000 ++ [(⟨x232000, x232001, (⟨x232002, x232003, x232004⟩ : S26), x232005⟩ : S48)]) x222001 x222002 x223000 x223001 x223002) else (none))
end
def colophonref10_Find.f (k : Nat) (a0 : ByteArray) : Option ((List (S48)) × Int × Int) := colophonref10_Find.l0 k a0 0 0 ([] : List (S48)) 0 0 0 1 1
theorem colophonref10_Find.mono_l : ∀ k, (∀ y0 y1 y2 y3 y4 y5 y6 y7 y8, LeO (colophonref10_Find.l0 k y0 y1 y2 y3 y4 y5 y6 y7 y8) (colophonref10_Find.l0 (k + 1) y0 y1 y2 y3 y4 y5 y6 y7 y8)) ∧ (∀ y0 y1 y2 y3 y4 y5 y6 y7 y8, LeO (colophonref10_Find.j1 k y0 y1 y2 y3 y4 y5 y6 y7 y8) (colophonref10_Find.j1 (k + 1) y0 y1 y2 y3 y4 y5 y6 y7 y8)) ∧ (∀ y0 y1 y2 y3 y4 y5 y6 y7 y8 y9, LeO (colophonref10_Find.j2 k y0 y1 y2 y3 y4 y5 y6 y7 y8 y9) (colophonref10_Find.j2 (k + 1) y0 y1 y2 y3 y4 y5 y6 y7 y8 y9)) ∧ (∀ y0 y1 y2 y3 y4 y5 y6 y7 y8 y9 y10 y11 y12 y13 y14 y15 y16, LeO (colophonref10_Find.j3 k y0 y1 y2 y3 y4 y5 y6 y7 y8 y9 y10 y11 y12 y13 y14 y15 y16) (colophonref10_Find.j3 (k + 1) y0 y1 y2 y3 y4 y5 y6 y7 y8 y9 y10 y11 y12 y13 y14 y15 y16)) ∧ (∀ y0 y1 y2 y3 y4 y5 y6 y7 y8 y9 y10 y11 y12 y13 y14 y15, LeO (colophonref10_Find.j4 k y0 y1 y2 y3 y4 y5 y6 y7 y8 y9 y10 y11 y12 y13 y14 y15) (colophonref10_Find.j4 (k + 1) y0 y1 y2 y3 y4 y5 y6 y7 y8 y9 y10 y11 y12 y13 y14 y15)) ∧ (∀ y0 y1 y2 y3 y4 y5 y6 y7 y8 y9 y10 y11 y12 y13 y14 y15, LeO (colophonref10_Find.l1 k y0 y1 y2 y3 y4 y5 y6 y7 y8 y9 y10 y11 y12 y13 y14 y15) (colophonref10_Find.l1 (k + 1) y0 y1 y2 y3 y4 y5 y6 y7 y8 y9 y10 y11 y12 y13 y14 y15))
  | 0 => ⟨fun _ _ _ _ _ _ _ _ _ r h => by simp [colophonref10_Find.l0] at h, fun _ _ _ _ _ _ _ _ _ r h => by simp [colophonref10_Find.j1] at h, fun _ _ _ _ _ _ _ _ _ _ r h => by simp [colophonref10_Find.j2] at h, fun _ _ _ _ _ _ _ _ _ _ _ _ _ _ _ _ _ r h => by simp [colophonref10_Find.j3] at h, fun _ _ _ _ _ _ _ _ _ _ _ _ _ _ _ _ r h => by simp [colophonref10_Find.j4] at h, fun _ _ _ _ _ _ _ _ _ _ _ _ _ _ _ _ r h => by simp [colophonref10_Find.l1] at h⟩
  | k + 1 => by
    obtain ⟨ih0, ih1, ih2, ih3, ih4, ih5⟩ := colophonref10_Find.mono_l k
    refine ⟨?_, ?_, ?_, ?_, ?_, ?_⟩
    · intro y0 y1 y2 y3 y4 y5 y6 y7 y8
      unfold colophonref10_Find.l0
      repeat' first
      | (with_reducible exact ih0 _ _ _ _ _ _ _ _ _)
      | (with_reducible exact ih1 _ _ _ _ _ _ _ _ _)
      | (with_reducible exact ih2 _ _ _ _ _ _ _ _ _ _)
      | (with_reducible exact ih3 _ _ _ _ _ _ _ _ _ _ _ _ _ _ _ _ _)
      | (with_reducible exact ih4 _ _ _ _ _ _ _ _ _ _ _ _ _ _ _ _)
      | (with_reducible exact ih5 _ _ _ _ _ _ _ _ _ _ _ _ _ _ _ _)
      | (with_reducible exact colophonref04_IsKey.mono _ _)
      | (with_reducible exact colophonref10_begins.mono _ _ _)
      | (with_reducible exact colophonref10_ends.mono _ _ _ _)
      | (with_reducible exact LeO.refl _)
      | (with_reducible exact LeO.none _)
      | (with_reducible refine LeO.ite ?_ ?_)
      | (with_reducible refine LeO.bind ?_ (fun _ => ?_))
      | exact ih0 _ _ _ _ _ _ _ _ _
      | exact ih1 _ _ _ _ _ _ _ _ _
      | exact ih2 _ _ _ _ _ _ _ _ _ _
      | exact ih3 _ _ _ _ _ _ _ _ _ _ _ _ _ _ _ _ _
      | exact ih4 _ _ _ _ _ _ _ _ _ _ _ _ _ _ _ _
      | exact ih5 _ _ _ _ _ _ _ _ _ _ _ _ _ _ _ _
      | exact colophonref04_IsKey.mono _ _
      | exact colophonref10_begins.mono _ _ _
      | exact colophonref10_ends.mono _ _ _ _
      | exact LeO.none _
      | refine LeO.ite ?_ ?_
      | refine LeO.bind ?_ (fun _ => ?_)
    · intro y0 y1 y2 y3 y4 y5 y6 y7 y8
      unfold colophonref10_Find.j1
      repeat' first
      | (with_reducible exact ih0 _ _ _ _ _ _ _ _ _)
      | (with_reducible exact ih1 _ _ _ _ _ _ _ _ _)
      | (with_reducible exact ih2 _ _ _ _ _ _ _ _ _ _)
      | (with_reducible exact ih3 _ _ _ _ _ _ _ _ _ _ _ _ _ _ _ _ _)
      | (with_reducible exact ih4 _ _ _ _ _ _ _ _ _ _ _ _ _ _ _ _)
      | (with_reducible exact ih5 _ _ _ _ _ _ _ _ _ _ _ _ _ _ _ _)
      | (with_reducible exact colophonref04_IsKey.mono _ _)
      | (with_reducible exact colophonref10_begins.mono _ _ _)
      | (with_reducible exact colophonref10_ends.mono _ _ _ _)
      | (with_reducible exact LeO.refl _)
      | (with_reducible exact LeO.none _)
      | (with_reducible refine LeO.ite ?_ ?_)
      | (with_reducible refine LeO.bind ?_ (fun _ => ?_))
      | exact ih0 _ _ _ _ _ _ _ _ _
      | exact ih1 _ _ _ _ _ _ _ _ _
      | exact ih2 _ _ _ _ _ _ _ _ _ _
      | exact ih3 _ _ _ _ _ _ _ _ _ _ _ _ _ _ _ _ _
      | exact ih4 _ _ _ _ _ _ _ _ _ _ _ _ _ _ _ _
      | exact ih5 _ _ _ _ _ _ _ _ _ _ _ _ _ _ _ _
      | exact colophonref04_IsKey.mono _ _
      | exact colophonref10_begins.mono _ _ _
      | exact colophonref10_ends.mono _ _ _ _
      | exact LeO.none _
      | refine LeO.ite ?_ ?_
      | refine LeO.bind ?_ (fun _ => ?_)
    · intro y0 y1 y2 y3 y4 y5 y6 y7 y8 y9
      unfold colophonref10_Find.j2
      repeat' first
      | (with_reducible exact ih0 _ _ _ _ _ _ _ _ _)
      | (with_reducible exact ih1 _ _ _ _ _ _ _ _ _)
      | (with_reducible exact ih2 _ _ _ _ _ _ _ _ _ _)
      | (with_reducible exact ih3 _ _ _ _ _ _ _ _ _ _ _ _ _ _ _ _ _)
      | (with_reducible exact ih4 _ _ _ _ _ _ _ _ _ _ _ _ _ _ _ _)
      | (with_reducible exact ih5 _ _ _ _ _ _ _ _ _ _ _ _ _ _ _ _)
      | (with_reducible exact colophonref04_IsKey.mono _ _)
      | (with_reducible exact colophonref10_begins.mono _ _ _)
      | (with_reducible exact colophonref10_ends.mono _ _ _ _)
      | (with_reducible exact LeO.refl _)
      | (with_reducible exact LeO.none _)
      | (with_reducible refine LeO.ite ?_ ?_)
      | (with_reducible refine LeO.bind ?_ (fun _ => ?_))
      | exact ih0 _ _ _ _ _ _ _ _ _
      | exact ih1 _ _ _ _ _ _ _ _ _
      | exact ih2 _ _ _ _ _ _ _ _ _ _
      | exact ih3 _ _ _ _ _ _ _ _ _ _ _ _ _ _ _ _ _
      | exact ih4 _ _ _ _ _ _ _ _ _ _ _ _ _ _ _ _
      | exact ih5 _ _ _ _ _ _ _ _ _ _ _ _ _ _ _ _
      | exact colophonref04_IsKey.mono _ _
      | exact colophonref10_begins.mono _ _ _
      | exact colophonref10_ends.mono _ _ _ _
      | exact LeO.none _
      | refine LeO.ite ?_ ?_
      | refine LeO.bind ?_ (fun _ => ?_)
    · intro y0 y1 y2 y3 y4 y5 y6 y7 y8 y9 y10 y11 y12 y13 y14 y15 y16
      unfold colophonref10_Find.j3
      repeat' first
      | (with_reducible exact ih0 _ _ _ _ _ _ _ _ _)
      | (with_reducible exact ih1 _ _ _ _ _ _ _ _ _)
      | (with_reducible exact ih2 _ _ _ _ _ _ _ _ _ _)
      | (with_reducible exact ih3 _ _ _ _ _ _ _ _ _ _ _ _ _ _ _ _ _)
      | (with_reducible exact ih4 _ _ _ _ _ _ _ _ _ _ _ _ _ _ _ _)
      | (with_reducible exact ih5 _ _ _ _ _ _ _ _ _ _ _ _ _ _ _ _)
      | (with_reducible exact colophonref04_IsKey.mono _ _)
      | (with_reducible exact colophonref10_begins.mono _ _ _)
      | (with_reducible exact colophonref10_ends.mono _ _ _ _)
      | (with_reducible exact LeO.refl _)
      | (with_reducible exact LeO.none _)
      | (with_reducible refine LeO.ite ?_ ?_)
      | (with_reducible refine LeO.bind ?_ (fun _ => ?_))
      | exact ih0 _ _ _ _ _ _ _ _ _
      | exact ih1 _ _ _ _ _ _ _ _ _
      | exact ih2 _ _ _ _ _ _ _ _ _ _
      | exact ih3 _ _ _ _ _ _ _ _ _ _ _ _ _ _ _ _ _
      | exact ih4 _ _ _ _ _ _ _ _ _ _ _ _ _ _ _ _
      | exact ih5 _ _ _ _ _ _ _ _ _ _ _ _ _ _ _ _
      | exact colophonref04_IsKey.mono _ _
      | exact colophonref10_begins.mono _ _ _
      | exact colophonref10_ends.mono _ _ _ _
      | exact LeO.none _
      | refine LeO.ite ?_ ?_
      | refine LeO.bind ?_ (fun _ => ?_)
    · intro y0 y1 y2 y3 y4 y5 y6 y7 y8 y9 y10 y11 y12 y13 y14 y15
      unfold colophonref10_Find.j4
      repeat' first
      | (with_reducible exact ih0 _ _ _ _ _ _ _ _ _)
      | (with_reducible exact ih1 _ _ _ _ _ _ _ _ _)
      | (with_reducible exact ih2 _ _ _ _ _ _ _ _ _ _)
      | (with_reducible exact ih3 _ _ _ _ _ _ _ _ _ _ _ _ _ _ _ _ _)
      | (with_reducible exact ih4 _ _ _ _ _ _ _ _ _ _ _ _ _ _ _ _)
      | (with_reducible exact ih5 _ _ _ _ _ _ _ _ _ _ _ _ _ _ _ _)
      | (with_reducible exact colophonref04_IsKey.mono _ _)
      | (with_reducible exact colophonref10_begins.mono _ _ _)
      | (with_reducible exact colophonref10_ends.mono _ _ _ _)
      | (with_reducible exact LeO.refl _)
      | (with_reducible exact LeO.none _)
      | (with_reducible refine LeO.ite ?_ ?_)
      | (with_reducible refine LeO.bind ?_ (fun _ => ?_))
      | exact ih0 _ _ _ _ _ _ _ _ _
      | exact ih1 _ _ _ _ _ _ _ _ _
      | exact ih2 _ _ _ _ _ _ _ _ _ _
      | exact ih3 _ _ _ _ _ _ _ _ _ _ _ _ _ _ _ _ _
      | exact ih4 _ _ _ _ _ _ _ _ _ _ _ _ _ _ _ _
      | exact ih5 _ _ _ _ _ _ _ _ _ _ _ _ _ _ _ _
      | exact colophonref04_IsKey.mono _ _
      | exact colophonref10_begins.mono _ _ _
      | exact colophonref10_ends.mono _ _ _ _
      | exact LeO.none _
      | refine LeO.ite ?_ ?_
      | refine LeO.bind ?_ (fun _ => ?_)
    · intro y0 y1 y2 y3 y4 y5 y6 y7 y8 y9 y10 y11 y12 y13 y14 y15
      unfold colophonref10_Find.l1
      repeat' first
      | (with_reducible exact ih0 _ _ _ _ _ _ _ _ _)
      | (with_reducible exact ih1 _ _ _ _ _ _ _ _ _)
      | (with_reducible exact ih2 _ _ _ _ _ _ _ _ _ _)
      | (with_reducible exact ih3 _ _ _ _ _ _ _ _ _ _ _ _ _ _ _ _ _)
      | (with_reducible exact ih4 _ _ _ _ _ _ _ _ _ _ _ _ _ _ _ _)
      | (with_reducible exact ih5 _ _ _ _ _ _ _ _ _ _ _ _ _ _ _ _)
      | (with_reducible exact colophonref04_IsKey.mono _ _)
      | (with_reducible exact colophonref10_begins.mono _ _ _)
      | (with_reducible exact colophonref10_ends.mono _ _ _ _)
      | (with_reducible exact LeO.refl _)
      | (with_reducible exact LeO.none _)
      | (with_reducible refine LeO.ite ?_ ?_)
      | (with_reducible refine LeO.bind ?_ (fun _ => ?_))
      | exact ih0 _ _ _ _ _ _ _ _ _
      | exact ih1 _ _ _ _ _ _ _ _ _
      | exact ih2 _ _ _ _ _ _ _ _ _ _
      | exact ih3 _ _ _ _ _ _ _ _ _ _ _ _ _ _ _ _ _
      | exact ih4 _ _ _ _ _ _ _ _ _ _ _ _ _ _ _ _
      | exact ih5 _ _ _ _ _ _ _ _ _ _ _ _ _ _ _ _
      | exact colophonref04_IsKey.mono _ _
      | exact colophonref10_begins.mono _ _ _
      | exact colophonref10_ends.mono _ _ _ _
      | exact LeO.none _
      | refine LeO.ite ?_ ?_
      | refine LeO.bind ?_ (fun _ => ?_)
theorem colophonref10_Find.mono : ∀ a0 k, LeO (colophonref10_Find.f k a0) (colophonref10_Find.f (k + 1) a0) := by
  intro a0 k
  obtain ⟨ih0, ih1, ih2, ih3, ih4, ih5⟩ := colophonref10_Find.mono_l k
  unfold colophonref10_Find.f
  repeat' first
      | (with_reducible exact ih0 _ _ _ _ _ _ _ _ _)
      | (with_reducible exact ih1 _ _ _ _ _ _ _ _ _)
      | (with_reducible exact ih2 _ _ _ _ _ _ _ _ _ _)
      | (with_reducible exact ih3 _ _ _ _ _ _ _ _ _ _ _ _ _ _ _ _ _)
      | (with_reducible exact ih4 _ _ _ _ _ _ _ _ _ _ _ _ _ _ _ _)
      | (with_reducible exact ih5 _ _ _ _ _ _ _ _ _ _ _ _ _ _ _ _)
      | (with_reducible exact colophonref04_IsKey.mono _ _)
      | (with_reducible exact colophonref10_begins.mono _ _ _)
      | (with_reducible exact colophonref10_ends.mono _ _ _ _)
      | (with_reducible exact LeO.refl _)
      | (with_reducible exact LeO.none _)
      | (with_reducible refine LeO.ite ?_ ?_)
      | (with_reducible refine LeO.bind ?_ (fun _ => ?_))
      | exact ih0 _ _ _ _ _ _ _ _ _
      | exact ih1 _ _ _ _ _ _ _ _ _
      | exact ih2 _ _ _ _ _ _ _ _ _ _
      | exact ih3 _ _ _ _ _ _ _ _ _ _ _ _ _ _ _ _ _
      | exact ih4 _ _ _ _ _ _ _ _ _ _ _ _ _ _ _ _
      | exact ih5 _ _ _ _ _ _ _ _ _ _ _ _ _ _ _ _
      | exact colophonref04_IsKey.mono _ _
      | exact colophonref10_begins.mono _ _ _
      | exact colophonref10_ends.mono _ _ _ _
      | exact LeO.none _
      | refine LeO.ite ?_ ?_
      | refine LeO.bind ?_ (fun _ => ?_)
def colophonref10_Find.T20 : Bool × List (List Nat × List Nat) := (true, [([], []), ([], []), ([], []), ([2], [2]), ([], []), ([1, 3, 4], [1, 3, 4]), ([0, 5], [0, 5]), ([6, 6, 0, 1, 2, 3, 4, 5, 6], [6])])
def colophonref10_Find.B20 : List Nat := [0, 0, 0, 4, 0, 30, 63, 127]
theorem colophonref10_Find.tab20 : rtab .any (opsOf Tryz.f20 20) = colophonref10_Find.T20 := by kernel_rfl
theorem colophonref10_Find.bits20 : waitsOk colophonref10_Find.T20.2 colophonref10_Find.B20 = true := by kernel_rfl
def colophonref10_Find.T21 : Bool × List (List Nat × List Nat) := (true, [([], []), ([], []), ([], []), ([], []), ([3], [3]), ([1, 2, 4], [1, 2, 4]), ([], []), ([], []), ([0, 5, 6, 7], [0, 5, 6, 7]), ([], []), ([9, 8, 0, 1, 2, 3, 4, 5, 6, 7, 8, 9], [8, 9])])
def colophonref10_Find.B21 : List Nat := [0, 0, 0, 0, 8, 30, 0, 0, 255, 0, 1023]
theorem colophonref10_Find.tab21 : rtab .any (opsOf Tryz.f20 21) = colophonref10_Find.T21 := by kernel_rfl
theorem colophonref10_Find.bits21 : waitsOk colophonref10_Find.T21.2 colophonref10_Find.B21 = true := by kernel_rfl
set_option maxHeartbeats 8000000 in
set_option maxRecDepth 100000 in
theorem colophonref10_Find.calls (k : Nat) (a0 : ByteArray) (r1 : List (S48)) (r2 : Int) (r3 : Int) (w : World) (h : colophonref10_Find.f k a0 = some (r1, r2, r3)) :
    Calls Tryz.prog 20 #[.string a0] w fun e w' => ∃ v0_ : Value, e = .returned (.agg #[v0_, .int .i64 r2, .int .i64 r3]) ∧ Kd.R k48 48 w' w.heap.size (fun _ => True) v0_ r1 ∧ Below w.heap.size w w' := by
  have hu68 := Tryz.underlying68
  have hu26 := Tryz.underlying26
  have hu90 := Tryz.underlying90
  have hu48 := Tryz.underlying48
  have HB := Aside0.mk (Below.refl w.heap.size w)
  have H : (colophonref10_Find.l0 k a0 0 0 ([] : List (S48)) 0 0 0 1 1) = some (r1, r2, r3) := h
  clear h
  have H' := Aside0.mk H
  clear H
  go_enter Tryz.func20, Tryz.ntmps20
  go_wp2_with (first | ((with_reducible refine gate_dst (N := 2) rfl ?_); (try (refine gate_guard (by rfl) ?_; dsimp only)); refine box_event ?hg (N := 2) ?hd (cs := #[.slice none 0 0, .int .i64 0, .int .i64 0]) (t := 68) ?hr ?_; (case hd => rfl); (case hg => rfl); (case hr => first | (go_simp; done) | (go_simp; rfl)); intro gb220 hg w2 hbox hb; have n0_ := Aside0.mk (below_step (by repeat (first | (with_reducible first | exact HB.out | apply below_alloc | apply pw_below_drewN | apply below_drew1) | exact HB.out)) hb); have n1_ := Aside0.mk (hbox); have n2_ := Aside0.mk ((by rw [hg]; exact (below_size (by repeat (first | (with_reducible first | exact HB.out | apply below_alloc | apply pw_below_drewN | apply below_drew1) | exact HB.out))) : w.heap.size ≤ gb220)); have n3_ := Aside0.mk ((by rw [hg]; exact (below_size (by repeat (first | (with_reducible first | exact HB.out | apply below_alloc | apply pw_below_drewN | apply below_drew1) | exact HB.out))) : w.heap.size ≤ gb220)); clear HB; have HB := n0_; have BK220 := n1_; have GW220 := n2_; have GE220 := n3_; clear n0_ n1_ n2_ n3_; clear hb hbox hg) | ((with_reducible refine gate_dst (N := 3) rfl ?_); (try (refine gate_guard (by rfl) ?_; dsimp only)); refine box_event ?hg (N := 3) ?hd (cs := #[.slice none 0 0, .int .i64 0, .int .i64 0]) (t := 68) ?hr ?_; (case hd => rfl); (case hg => rfl); (case hr => first | (go_simp; done) | (go_simp; rfl)); intro gb221 hg w3 hbox hb; have n0_ := Aside0.mk (blk_below (g := gb220) (o := .cells #[.slice none 0 0, .int .i64 0, .int .i64 0] 68 (0, 0)) (by (with_reducible repeat (first | refine blk_drewN ?_ _ | refine blk_drew ?_ | refine blk_alloc ?_ _)); exact BK220.out) hb); have n1_ := Aside0.mk (below_step (by repeat (first | (with_reducible first | exact HB.out | apply below_alloc | apply pw_below_drewN | apply below_drew1 | refine below_set ?_ GE220.out) | exact HB.out)) hb); have n2_ := Aside0.mk (hbox); have n3_ := Aside0.mk ((by rw [hg]; exact (below_size (by repeat (first | (with_reducible first | exact HB.out | apply below_alloc | apply pw_below_drewN | apply below_drew1 | refine below_set ?_ GE220.out) | exact HB.out))) : w.heap.size ≤ gb221)); have n4_ := Aside0.mk ((by rw [hg]; exact (below_size (by repeat (first | (with_reducible first | exact HB.out | apply below_alloc | apply pw_below_drewN | apply below_drew1 | refine below_set ?_ GE220.out) | exact HB.out))) : w.heap.size ≤ gb221)); have n5_ := Aside0.mk ((by rw [hg]; exact Nat.ne_of_lt (blk_lt (g := gb220) (o := .cells #[.slice none 0 0, .int .i64 0, .int .i64 0] 68 (0, 0)) (by (with_reducible repeat (first | refine blk_drewN ?_ _ | refine blk_drew ?_ | refine blk_alloc ?_ _)); exact BK220.out)) : gb220 ≠ gb221)); have n6_ := Aside0.mk ((by rw [hg]; exact Nat.ne_of_gt (blk_lt (g := gb220) (o := .cells #[.slice none 0 0, .int .i64 0, .int .i64 0] 68 (0, 0)) (by (with_reducible repeat (first | refine blk_drewN ?_ _ | refine blk_drew ?_ | refine blk_alloc ?_ _)); exact BK220.out)) : gb221 ≠ gb220)); clear BK220; clear HB; have BK220 := n0_; have HB := n1_; have BK221 := n2_; have GW221 := n3_; have GE221 := n4_; have NB220_221 := n5_; have NB221_220 := n6_; clear n0_ n1_ n2_ n3_ n4_ n5_ n6_; clear hb hbox hg; have hnb4 := NB221_220.out; have hnc4 := NB220_221.out; have hcz5_0 : w3.cell? ⟨gb221, 0, none⟩ = some (.slice none 0 0) := (blk_cell BK221.out 0).trans rfl; have hcz5_1 : w3.cell? ⟨gb221, 1, none⟩ = some (.int .i64 0) := (blk_cell BK221.out 1).trans rfl; have hcz5_2 : w3.cell? ⟨gb221, 2, none⟩ = some (.int .i64 0) := (blk_cell BK221.out 2).trans rfl; have hfz5_0 := blk_frozen BK221.out 0; have hfz5_1 := blk_frozen BK221.out 1; have hfz5_2 := blk_frozen BK221.out 2) | ((with_reducible refine gate_dst (N := 4) rfl ?_); (try (refine gate_guard (by rfl) ?_; dsimp only)); refine box_event ?hg (N := 4) ?hd (cs := #[.int .i64 0, .int .i64 0, .int .i64 0]) (t := 26) ?hr ?_; (case hd => rfl); (case hg => rfl); (case hr => first | (go_simp; done) | (go_simp; rfl)); intro gb222 hg w6 hbox hb; have n0_ := Aside0.mk (blk_below (g := gb220) (o := .cells #[.slice none 0 0, .int .i64 0, .int .i64 0] 68 (0, 0)) (by (with_reducible repeat (first | refine blk_drewN ?_ _ | refine blk_drew ?_ | refine blk_alloc ?_ _)); refine blk_far ?_ NB220_221.out _; (with_reducible repeat (first | refine blk_drewN ?_ _ | refine blk_drew ?_ | refine blk_alloc ?_ _)); refine blk_far ?_ NB220_221.out _; (with_reducible repeat (first | refine blk_drewN ?_ _ | refine blk_drew ?_ | refine blk_alloc ?_ _)); refine blk_far ?_ NB220_221.out _; (with_reducible repeat (first | refine blk_drewN ?_ _ | refine blk_drew ?_ | refine blk_alloc ?_ _)); exact BK220.out) hb); have n1_ := Aside0.mk (blk_below (g := gb221) (o := .cells #[.slice none 0 0, .int .i64 0, .int .i64 0] 68 (0, 0)) (by (with_reducible repeat (first | refine blk_drewN ?_ _ | refine blk_drew ?_ | refine blk_alloc ?_ _)); refine blk_put (cs := #[.slice none 0 0, .int .i64 0, .int .i64 0]) ?_ 2 _ rfl; (with_reducible repeat (first | refine blk_drewN ?_ _ | refine blk_drew ?_ | refine blk_alloc ?_ _)); refine blk_put (cs := #[.slice none 0 0, .int .i64 0, .int .i64 0]) ?_ 1 _ rfl; (with_reducible repeat (first | refine blk_drewN ?_ _ | refine blk_drew ?_ | refine blk_alloc ?_ _)); refine blk_put (cs := #[.slice none 0 0, .int .i64 0, .int .i64 0]) ?_ 0 _ rfl; (with_reducible repeat (first | refine blk_drewN ?_ _ | refine blk_drew ?_ | refine blk_alloc ?_ _)); exact BK221.out) hb); have n2_ := Aside0.mk (below_step (by repeat (first | (with_reducible first | exact HB.out | apply below_alloc | apply pw_below_drewN | apply below_drew1 | refine below_set ?_ GE220.out | refine below_set ?_ GE221.out) | exact HB.out)) hb); have n3_ := Aside0.mk (hbox); have n4_ := Aside0.mk ((by rw [hg]; exact (below_size (by repeat (first | (with_reducible first | exact HB.out | apply below_alloc | apply pw_below_drewN | apply below_drew1 | refine below_set ?_ GE220.out | refine below_set ?_ GE221.out) | exact HB.out))) : w.heap.size ≤ gb222)); have n5_ := Aside0.mk ((by rw [hg]; exact (below_size (by repeat (first | (with_reducible first | exact HB.out | apply below_alloc | apply pw_below_drewN | apply below_drew1 | refine below_set ?_ GE220.out | refine below_set ?_ GE221.out) | exact HB.out))) : w.heap.size ≤ gb222)); have n6_ := Aside0.mk ((by rw [hg]; exact Nat.ne_of_lt (blk_lt (g := gb220) (o := .cells #[.slice none 0 0, .int .i64 0, .int .i64 0] 68 (0, 0)) (by (with_reducible repeat (first | refine blk_drewN ?_ _ | refine blk_drew ?_ | refine blk_alloc ?_ _)); refine blk_far ?_ NB220_221.out _; (with_reducible repeat (first | refine blk_drewN ?_ _ | refine blk_drew ?_ | refine blk_alloc ?_ _)); refine blk_far ?_ NB220_221.out _; (with_reducible repeat (first | refine blk_drewN ?_ _ | refine blk_drew ?_ | refine blk_alloc ?_ _)); refine blk_far ?_ NB220_221.out _; (with_reducible repeat (first | refine blk_drewN ?_ _ | refine blk_drew ?_ | refine blk_alloc ?_ _)); exact BK220.out)) : gb220 ≠ gb222)); have n7_ := Aside0.mk ((by rw [hg]; exact Nat.ne_of_gt (blk_lt (g := gb220) (o := .cells #[.slice none 0 0, .int .i64 0, .int .i64 0] 68 (0, 0)) (by (with_reducible repeat (first | refine blk_drewN ?_ _ | refine blk_drew ?_ | refine blk_alloc ?_ _)); refine blk_far ?_ NB220_221.out _; (with_reducible repeat (first | refine blk_drewN ?_ _ | refine blk_drew ?_ | refine blk_alloc ?_ _)); refine blk_far ?_ NB220_221.out _; (with_reducible repeat (first | refine blk_drewN ?_ _ | refine blk_drew ?_ | refine blk_alloc ?_ _)); refine blk_far ?_ NB220_221.out _; (with_reducible repeat (first | refine blk_drewN ?_ _ | refine blk_drew ?_ | refine blk_alloc ?_ _)); exact BK220.out)) : gb222 ≠ gb220)); have n8_ := Aside0.mk ((by rw [hg]; exact Nat.ne_of_lt (blk_lt (g := gb221) (o := .cells #[.slice none 0 0, .int .i64 0, .int .i64 0] 68 (0, 0)) (by (with_reducible repeat (first | refine blk_drewN ?_ _ | refine blk_drew ?_ | refine blk_alloc ?_ _)); refine blk_put (cs := #[.slice none 0 0, .int .i64 0, .int .i64 0]) ?_ 2 _ rfl; (with_reducible repeat (first | refine blk_drewN ?_ _ | refine blk_drew ?_ | refine blk_alloc ?_ _)); refine blk_put (cs := #[.slice none 0 0, .int .i64 0, .int .i64 0]) ?_ 1 _ rfl; (with_reducible repeat (first | refine blk_drewN ?_ _ | refine blk_drew ?_ | refine blk_alloc ?_ _)); refine blk_put (cs := #[.slice none 0 0, .int .i64 0, .int .i64 0]) ?_ 0 _ rfl; (with_reducible repeat (first | refine blk_drewN ?_ _ | refine blk_drew ?_ | refine blk_alloc ?_ _)); exact BK221.out)) : gb221 ≠ gb222)); have n9_ := Aside0.mk ((by rw [hg]; exact Nat.ne_of_gt (blk_lt (g := gb221) (o := .cells #[.slice none 0 0, .int .i64 0, .int .i64 0] 68 (0, 0)) (by (with_reducible repeat (first | refine blk_drewN ?_ _ | refine blk_drew ?_ | refine blk_alloc ?_ _)); refine blk_put (cs := #[.slice none 0 0, .int .i64 0, .int .i64 0]) ?_ 2 _ rfl; (with_reducible repeat (first | refine blk_drewN ?_ _ | refine blk_drew ?_ | refine blk_alloc ?_ _)); refine blk_put (cs := #[.slice none 0 0, .int .i64 0, .int .i64 0]) ?_ 1 _ rfl; (with_reducible repeat (first | refine blk_drewN ?_ _ | refine blk_drew ?_ | refine blk_alloc ?_ _)); refine blk_put (cs := #[.slice none 0 0, .int .i64 0, .int .i64 0]) ?_ 0 _ rfl; (with_reducible repeat (first | refine blk_drewN ?_ _ | refine blk_drew ?_ | refine blk_alloc ?_ _)); exact BK221.out)) : gb222 ≠ gb221)); clear BK220; clear BK221; clear HB; have BK220 := n0_; have BK221 := n1_; have HB := n2_; have BK222 := n3_; have GW222 := n4_; have GE222 := n5_; have NB220_222 := n6_; have NB222_220 := n7_; have NB221_222 := n8_; have NB222_221 := n9_; clear n0_ n1_ n2_ n3_ n4_ n5_ n6_ n7_ n8_ n9_; clear hb hbox hg; have hnb7 := NB222_220.out; have hnc7 := NB220_222.out; have hnb8 := NB222_221.out; have hnc8 := NB221_222.out; have hcz9_0 : w6.cell? ⟨gb222, 0, none⟩ = some (.int .i64 0) := (blk_cell BK222.out 0).trans rfl; have hcz9_1 : w6.cell? ⟨gb222, 1, none⟩ = some (.int .i64 0) := (blk_cell BK222.out 1).trans rfl; have hcz9_2 : w6.cell? ⟨gb222, 2, none⟩ = some (.int .i64 0) := (blk_cell BK222.out 2).trans rfl; have hfz9_0 := blk_frozen BK222.out 0; have hfz9_1 := blk_frozen BK222.out 1; have hfz9_2 := blk_frozen BK222.out 2))
  go_loopg [5, 6] k (fun kq v5 v6 w' => ∃ (x5_1 : Int) (x6_1 : Int) (x221001_1 : Int) (x221002_1 : Int) (x222000_1 : List (S48)) (x222001_1 : Int) (x222002_1 : Int) (x223000_1 : Int) (x223001_1 : Int) (x223002_1 : Int) (u222000 : Value), v5 = .int .i64 x5_1 ∧ v6 = .int .i64 x6_1 ∧ Aside0 (colophonref10_Find.l0 kq a0 x5_1 x6_1 x222000_1 x222001_1 x222002_1 x223000_1 x223001_1 x223002_1 = some (r1, r2, r3)) ∧ Aside0 (kq ≤ k) ∧ Aside0 (Kd.R k48 48 w' w.heap.size (fun _ => True) u222000 x222000_1) ∧ Aside0 (w'.heap[gb220]? = some (.cells #[(.slice none 0 0), .int .i64 x221001_1, .int .i64 x221002_1] 68 (0, 0))) ∧ Aside0 (w'.heap[gb221]? = some (.cells #[u222000, .int .i64 x222001_1, .int .i64 x222002_1] 68 (0, 0))) ∧ Aside0 (w'.heap[gb222]? = some (.cells #[.int .i64 x223000_1, .int .i64 x223001_1, .int .i64 x223002_1] 26 (0, 0))) ∧ Aside0 (Below w.heap.size w w'))
  case atStart => exact ⟨(0), (0), (0), (0), (([] : List (S48))), (0), (0), (0), (1), (1), (.slice none 0 0), (by first | rfl | (simp; done) | (simp [*]; done)), (by first | rfl | (simp; done) | (simp [*]; done)), H', ⟨Nat.le_refl _⟩, ⟨by first | exact Kd.R_nil _ _ _ _ _ | exact Kd.N_nil _ _ _ _ _ | exact Kd.V_nil _ _ _ _ _ | exact Kd.Q_nil _ _ _ _ _ | exact Kd.S_nil _ _ _ _ _⟩, ⟨by (with_reducible repeat (first | refine blk_drewN ?_ _ | refine blk_drew ?_ | refine blk_alloc ?_ _)); refine blk_far ?_ NB220_222.out _; (with_reducible repeat (first | refine blk_drewN ?_ _ | refine blk_drew ?_ | refine blk_alloc ?_ _)); refine blk_far ?_ NB220_222.out _; (with_reducible repeat (first | refine blk_drewN ?_ _ | refine blk_drew ?_ | refine blk_alloc ?_ _)); refine blk_far ?_ NB220_222.out _; (with_reducible repeat (first | refine blk_drewN ?_ _ | refine blk_drew ?_ | refine blk_alloc ?_ _)); exact BK220.out⟩, ⟨by (with_reducible repeat (first | refine blk_drewN ?_ _ | refine blk_drew ?_ | refine blk_alloc ?_ _)); refine blk_far ?_ NB221_222.out _; (with_reducible repeat (first | refine blk_drewN ?_ _ | refine blk_drew ?_ | refine blk_alloc ?_ _)); refine blk_far ?_ NB221_222.out _; (with_reducible repeat (first | refine blk_drewN ?_ _ | refine blk_drew ?_ | refine blk_alloc ?_ _)); refine blk_far ?_ NB221_222.out _; (with_reducible repeat (first | refine blk_drewN ?_ _ | refine blk_drew ?_ | refine blk_alloc ?_ _)); exact BK221.out⟩, ⟨by (with_reducible repeat (first | refine blk_drewN ?_ _ | refine blk_drew ?_ | refine blk_alloc ?_ _)); refine blk_put (cs := #[.int .i64 0, .int .i64 1, .int .i64 0]) ?_ 2 _ rfl; (with_reducible repeat (first | refine blk_drewN ?_ _ | refine blk_drew ?_ | refine blk_alloc ?_ _)); refine blk_put (cs := #[.int .i64 0, .int .i64 0, .int .i64 0]) ?_ 1 _ rfl; (with_reducible repeat (first | refine blk_drewN ?_ _ | refine blk_drew ?_ | refine blk_alloc ?_ _)); refine blk_put (cs := #[.int .i64 0, .int .i64 0, .int .i64 0]) ?_ 0 _ rfl; (with_reducible repeat (first | refine blk_drewN ?_ _ | refine blk_drew ?_ | refine blk_alloc ?_ _)); exact BK222.out⟩, ⟨by repeat (first | (with_reducible first | exact HB.out | apply below_alloc | apply pw_below_drewN | apply below_drew1 | refine below_set ?_ GE220.out | refine below_set ?_ GE221.out | refine below_set ?_ GE222.out) | exact HB.out)⟩⟩
  case round =>
    clear H'
    try clear c2
    try clear p2
    try clear c4
    try clear c7
    try clear c8
    try clear hcz5_0
    try clear hcz5_1
    try clear hcz5_2
    try clear hcz9_0
    try clear hcz9_1
    try clear hcz9_2
    try clear hfz5_0
    try clear hfz5_1
    try clear hfz5_2
    try clear hfz9_0
    try clear hfz9_1
    try clear hfz9_2
    obtain ⟨x5_1, x6_1, x221001_1, x221002_1, x222000_1, x222001_1, x222002_1, x223000_1, x223001_1, x223002_1, u222000, rfl, rfl, HA, HK1, HO_222000, BK220, BK221, BK222, HB⟩ := hrel
    cases gk with
    | zero => exact absurd HA.out (by simp [colophonref10_Find.l0])
    | succ k1 =>
      have H := HA.out
      clear HA
      simp only [colophonref10_Find.l0] at H
      by_cases c10 : x6_1 < (a0.size : Int)
      · rw [if_pos c10] at H
        have c10b0 : decide (x6_1 < (a0.size : Int)) = true := decide_eq_true c10
        clear c10
        by_cases c11 : 0 ≤ x6_1
        · rw [if_pos c11] at H
          have c11b0 : decide (0 ≤ x6_1) = true := decide_eq_true c11
          clear c11
          have HC13 := Aside0.mk H
          clear H
          have p12 : 0 ≤ (x6_1 : Int) := of_decide_eq_true (by first | (with_reducible assumption) | assumption)
          have q12 : x6_1 < (a0.size : Int) := of_decide_eq_true (by first | (with_reducible assumption) | assumption)
          have hx12 := bt_at a0 x6_1
          replace p12 := eq_true p12
          replace q12 := eq_true q12
          go_upto_if 20 with (fail)
          go_cut [5] (fun v5 wc => ∃ (kq : Nat) (x5_12 : Int), v5 = .int .i64 x5_12 ∧ Aside0 (colophonref10_Find.j1 kq a0 x5_12 x6_1 x222000_1 x222001_1 x222002_1 x223000_1 x223001_1 x223002_1 = some (r1, r2, r3)) ∧ Aside0 (kq ≤ k1) ∧ Aside0 (Kd.R k48 48 wc w.heap.size (fun _ => True) u222000 x222000_1) ∧ Aside0 (wc.heap[gb220]? = some (.cells #[(.slice none 0 0), .int .i64 x221001_1, .int .i64 x221002_1] 68 (0, 0))) ∧ Aside0 (wc.heap[gb221]? = some (.cells #[u222000, .int .i64 x222001_1, .int .i64 x222002_1] 68 (0, 0))) ∧ Aside0 (wc.heap[gb222]? = some (.cells #[.int .i64 x223000_1, .int .i64 x223001_1, .int .i64 x223002_1] 26 (0, 0))) ∧ Aside0 (Below w.heap.size w wc))
          case first =>
            have H := HC13.out
            clear HC13
            by_cases c14 : (bt a0 x6_1) = 10
            · rw [if_pos c14] at H
              have c14b0 : ((bt a0 x6_1) == 10) = true := beq_iff_eq.mpr c14
              have c14b1 : ((bt a0 x6_1) != 10) = false := bne_eq_false_iff_eq.mpr c14
              clear c14
              (first | rw [c14b0] | (simp only [i64_w, i32_w]; rw [c14b0]) | skip)
              have H' := Aside0.mk H
              clear H
              go_wp2
              go_meet
              case rel => exact ⟨_, (wrap64 (x5_1 + 1)), (by first | rfl | (simp; done) | (simp [*]; done)), H', ⟨by have := HK1.out; first | omega | exact Nat.le_refl _⟩, ⟨by (with_reducible repeat (first | apply Kd.R_alloc | apply Kd.R_drewN | apply Kd.R_drew)); exact HO_222000.out⟩, ⟨by (with_reducible repeat (first | refine blk_drewN ?_ _ | refine blk_drew ?_ | refine blk_alloc ?_ _)); exact BK220.out⟩, ⟨by (with_reducible repeat (first | refine blk_drewN ?_ _ | refine blk_drew ?_ | refine blk_alloc ?_ _)); exact BK221.out⟩, ⟨by (with_reducible repeat (first | refine blk_drewN ?_ _ | refine blk_drew ?_ | refine blk_alloc ?_ _)); exact BK222.out⟩, ⟨by repeat (first | (with_reducible first | exact HB.out | apply below_alloc | apply pw_below_drewN | apply below_drew1 | refine below_set ?_ GE220.out | refine below_set ?_ GE221.out | refine below_set ?_ GE222.out) | exact HB.out)⟩⟩
            · rw [if_neg c14] at H
              have c14b0 : ((bt a0 x6_1) == 10) = false := beq_eq_false_iff_ne.mpr c14
              have c14b1 : ((bt a0 x6_1) != 10) = true := bne_iff_ne.mpr c14
              (first | rw [c14b0] | (simp only [i64_w, i32_w]; rw [c14b0]) | skip)
              have H' := Aside0.mk H
              clear H
              go_wp2
              go_meet
              case rel => exact ⟨_, (x5_1), (by first | rfl | (simp; done) | (simp [*]; done)), H', ⟨by have := HK1.out; first | omega | exact Nat.le_refl _⟩, ⟨by (with_reducible repeat (first | apply Kd.R_alloc | apply Kd.R_drewN | apply Kd.R_drew)); exact HO_222000.out⟩, ⟨by (with_reducible repeat (first | refine blk_drewN ?_ _ | refine blk_drew ?_ | refine blk_alloc ?_ _)); exact BK220.out⟩, ⟨by (with_reducible repeat (first | refine blk_drewN ?_ _ | refine blk_drew ?_ | refine blk_alloc ?_ _)); exact BK221.out⟩, ⟨by (with_reducible repeat (first | refine blk_drewN ?_ _ | refine blk_drew ?_ | refine blk_alloc ?_ _)); exact BK222.out⟩, ⟨by repeat (first | (with_reducible first | exact HB.out | apply below_alloc | apply pw_below_drewN | apply below_drew1 | refine below_set ?_ GE220.out | refine below_set ?_ GE221.out | refine below_set ?_ GE222.out) | exact HB.out)⟩⟩
          case rest =>
            clear HC13
            try clear c1
            try clear p1
            try clear q1
            try clear hx1
            try clear c2
            try clear p2
            try clear c4
            try clear p6
            try clear c7
            try clear c8
            try clear c10
            try clear c10b0
            try clear c11
            try clear c11b0
            try clear p12
            try clear q12
            try clear hx12
            try clear c14
            try clear c14b0
            try clear c14b1
            try clear hcz5_0
            try clear hcz5_1
            try clear hcz5_2
            try clear hcz9_0
            try clear hcz9_1
            try clear hcz9_2
            try clear hfz5_0
            try clear hfz5_1
            try clear hfz5_2
            try clear hfz9_0
            try clear hfz9_1
            try clear hfz9_2
            try clear p12
            try clear p2
            try clear q12
            obtain ⟨kq, x5_12, rfl, HA, HJ12, HO_222000, BK220, BK221, BK222, HB⟩ := hcut
            cases kq with
            | zero => exact absurd HA.out (by simp [colophonref10_Find.j1])
            | succ kj12 =>
              have H := HA.out
              clear HA
              simp only [colophonref10_Find.j1] at H
              have HC15 := Aside0.mk H
              clear H
              go_upto_region 8 with (fail)
              go_cut [32] (fun v32 wc => ∃ (kq : Nat) (x32_14 : Bool), v32 = .bool x32_14 ∧ Aside0 (colophonref10_Find.j2 kq a0 x5_12 x6_1 x32_14 x222000_1 x222001_1 x222002_1 x223000_1 x223001_1 x223002_1 = some (r1, r2, r3)) ∧ Aside0 (kq ≤ kj12) ∧ Aside0 (Kd.R k48 48 wc w.heap.size (fun _ => True) u222000 x222000_1) ∧ Aside0 (wc.heap[gb220]? = some (.cells #[(.slice none 0 0), .int .i64 x221001_1, .int .i64 x221002_1] 68 (0, 0))) ∧ Aside0 (wc.heap[gb221]? = some (.cells #[u222000, .int .i64 x222001_1, .int .i64 x222002_1] 68 (0, 0))) ∧ Aside0 (wc.heap[gb222]? = some (.cells #[.int .i64 x223000_1, .int .i64 x223001_1, .int .i64 x223002_1] 26 (0, 0))) ∧ Aside0 (Below w.heap.size w wc))
              case first =>
                have H := HC15.out
                clear HC15
                by_cases c16 : 0 ≤ x6_1
                · rw [if_pos c16] at H
                  have c16b0 : decide (0 ≤ x6_1) = true := decide_eq_true c16
                  clear c16
                  (first | rw [c16b0] | (simp only [i64_w, i32_w]; rw [c16b0]) | skip)
                  by_cases c17 : x6_1 < (a0.size : Int)
                  · rw [if_pos c17] at H
                    have c17b0 : decide (x6_1 < (a0.size : Int)) = true := decide_eq_true c17
                    clear c17
                    by_cases c19 : (bt a0 x6_1) = 10
                    · rw [if_pos c19] at H
                      have c19b0 : ((bt a0 x6_1) == 10) = true := beq_iff_eq.mpr c19
                      have c19b1 : ((bt a0 x6_1) != 10) = false := bne_eq_false_iff_eq.mpr c19
                      clear c19
                      have H' := Aside0.mk H
                      clear H
                      have p18 : 0 ≤ (x6_1 : Int) := of_decide_eq_true (by first | (with_reducible assumption) | assumption)
                      have q18 : x6_1 < (a0.size : Int) := of_decide_eq_true (by first | (with_reducible assumption) | assumption)
                      have hx18 := bt_at a0 x6_1
                      replace p18 := eq_true p18
                      replace q18 := eq_true q18
                      go_wp2
                      go_meet
                      case rel => exact ⟨_, (true), (by first | rfl | (simp; done) | (simp [*]; done)), H', ⟨by have := HK1.out; have := HJ12.out; first | omega | exact Nat.le_refl _⟩, ⟨by (with_reducible repeat (first | apply Kd.R_alloc | apply Kd.R_drewN | apply Kd.R_drew)); exact HO_222000.out⟩, ⟨by (with_reducible repeat (first | refine blk_drewN ?_ _ | refine blk_drew ?_ | refine blk_alloc ?_ _)); exact BK220.out⟩, ⟨by (with_reducible repeat (first | refine blk_drewN ?_ _ | refine blk_drew ?_ | refine blk_alloc ?_ _)); exact BK221.out⟩, ⟨by (with_reducible repeat (first | refine blk_drewN ?_ _ | refine blk_drew ?_ | refine blk_alloc ?_ _)); exact BK222.out⟩, ⟨by repeat (first | (with_reducible first | exact HB.out | apply below_alloc | apply pw_below_drewN | apply below_drew1 | refine below_set ?_ GE220.out | refine below_set ?_ GE221.out | refine below_set ?_ GE222.out) | exact HB.out)⟩⟩
                    · rw [if_neg c19] at H
                      have c19b0 : ((bt a0 x6_1) == 10) = false := beq_eq_false_iff_ne.mpr c19
                      have c19b1 : ((bt a0 x6_1) != 10) = true := bne_iff_ne.mpr c19
                      replace H := Option.bind_eq_some_iff.mp H
                      obtain ⟨t223, A210, H⟩ := H
                      replace H : (colophonref10_Find.j2 kj12 a0 x5_12 x6_1 t223 x222000_1 x222001_1 x222002_1 x223000_1 x223001_1 x223002_1) = some (r1, r2, r3) := H
                      have A21 := Aside0.mk A210
                      clear A210
                      have H' := Aside0.mk H
                      clear H
                      have p18 : 0 ≤ (x6_1 : Int) := of_decide_eq_true (by first | (with_reducible assumption) | assumption)
                      have q18 : x6_1 < (a0.size : Int) := of_decide_eq_true (by first | (with_reducible assumption) | assumption)
                      have hx18 := bt_at a0 x6_1
                      replace p18 := eq_true p18
                      replace q18 := eq_true q18
                      have p20 : 0 ≤ (x6_1 : Int) := of_decide_eq_true (by first | (with_reducible assumption) | assumption)
                      have q20 : x6_1 < (a0.size : Int) := of_decide_eq_true (by first | (with_reducible assumption) | assumption)
                      have hx20 := bt_at a0 x6_1
                      replace p20 := eq_true p20
                      replace q20 := eq_true q20
                      go_wp2_with (first | (go_at_call 31; (with_reducible refine (colophonref10_blank.calls (bt a0 x6_1) t223 _ A21.out).mono ?_); rintro e w22 ⟨rfl, hb⟩; have n0_ := Aside0.mk (Kd.R_below (by (with_reducible repeat (first | apply Kd.R_alloc | apply Kd.R_drewN | apply Kd.R_drew)); exact HO_222000.out) hb); have n1_ := Aside0.mk (blk_below (g := gb220) (o := .cells #[.slice none 0 0, .int .i64 x221001_1, .int .i64 x221002_1] 68 (0, 0)) (by (with_reducible repeat (first | refine blk_drewN ?_ _ | refine blk_drew ?_ | refine blk_alloc ?_ _)); exact BK220.out) hb); have n2_ := Aside0.mk (blk_below (g := gb221) (o := .cells #[u222000, .int .i64 x222001_1, .int .i64 x222002_1] 68 (0, 0)) (by (with_reducible repeat (first | refine blk_drewN ?_ _ | refine blk_drew ?_ | refine blk_alloc ?_ _)); exact BK221.out) hb); have n3_ := Aside0.mk (blk_below (g := gb222) (o := .cells #[.int .i64 x223000_1, .int .i64 x223001_1, .int .i64 x223002_1] 26 (0, 0)) (by (with_reducible repeat (first | refine blk_drewN ?_ _ | refine blk_drew ?_ | refine blk_alloc ?_ _)); exact BK222.out) hb); have n4_ := Aside0.mk (below_step (by repeat (first | (with_reducible first | exact HB.out | apply below_alloc | apply pw_below_drewN | apply below_drew1 | refine below_set ?_ GE220.out | refine below_set ?_ GE221.out | refine below_set ?_ GE222.out) | exact HB.out)) hb); clear HO_222000; clear BK220; clear BK221; clear BK222; clear HB; have HO_222000 := n0_; have BK220 := n1_; have BK221 := n2_; have BK222 := n3_; have HB := n4_; clear n0_ n1_ n2_ n3_ n4_; (try clear hb); (try clear hb2); (try clear hk); (try clear hi)))
                      go_meet
                      case rel => exact ⟨_, (t223), (by first | rfl | (simp; done) | (simp [*]; done)), H', ⟨by have := HK1.out; have := HJ12.out; first | omega | exact Nat.le_refl _⟩, ⟨by (with_reducible repeat (first | apply Kd.R_alloc | apply Kd.R_drewN | apply Kd.R_drew)); exact HO_222000.out⟩, ⟨by (with_reducible repeat (first | refine blk_drewN ?_ _ | refine blk_drew ?_ | refine blk_alloc ?_ _)); exact BK220.out⟩, ⟨by (with_reducible repeat (first | refine blk_drewN ?_ _ | refine blk_drew ?_ | refine blk_alloc ?_ _)); exact BK221.out⟩, ⟨by (with_reducible repeat (first | refine blk_drewN ?_ _ | refine blk_drew ?_ | refine blk_alloc ?_ _)); exact BK222.out⟩, ⟨by repeat (first | (with_reducible first | exact HB.out | apply below_alloc | apply pw_below_drewN | apply below_drew1 | refine below_set ?_ GE220.out | refine below_set ?_ GE221.out | refine below_set ?_ GE222.out) | exact HB.out)⟩⟩
                  · rw [if_neg c17] at H
                    exact absurd H (by simp)
                · rw [if_neg c16] at H
                  exact absurd H (by simp)
              case rest =>
                clear HC15
                try clear c1
                try clear p1
                try clear q1
                try clear hx1
                try clear c2
                try clear p2
                try clear q2
                try clear hx2
                try clear c4
                try clear p6
                try clear c7
                try clear c8
                try clear c10
                try clear c10b0
                try clear c11
                try clear c11b0
                try clear p12
                try clear q12
                try clear hx12
                try clear c14
                try clear c14b0
                try clear c14b1
                try clear c16
                try clear c16b0
                try clear c17
                try clear c17b0
                try clear p18
                try clear q18
                try clear hx18
                try clear c19
                try clear c19b0
                try clear c19b1
                try clear c20
                try clear p20
                try clear q20
                try clear hx20
                try clear hcz5_0
                try clear hcz5_1
                try clear hcz5_2
                try clear hcz9_0
                try clear hcz9_1
                try clear hcz9_2
                try clear hfz5_0
                try clear hfz5_1
                try clear hfz5_2
                try clear hfz9_0
                try clear hfz9_1
                try clear hfz9_2
                try clear p1
                try clear p12
                try clear p18
                try clear p2
                try clear p20
                try clear p6
                try clear q1
                try clear q12
                try clear q18
                try clear q20
                obtain ⟨kq, x32_14, rfl, HA, HJ14, HO_222000, BK220, BK221, BK222, HB⟩ := hcut
                cases kq with
                | zero => exact absurd HA.out (by simp [colophonref10_Find.j2])
                | succ kj14 =>
                  have H := HA.out
                  clear HA
                  simp only [colophonref10_Find.j2] at H
                  by_cases c23 : x32_14 = true
                  · subst c23
                    have H1 : (colophonref10_Find.l0 kj14 a0 x5_12 (wrap64 (x6_1 + 1)) x222000_1 x222001_1 x222002_1 x223000_1 x223001_1 x223002_1) = some (r1, r2, r3) := by rw [if_pos rfl] at H; exact H
                    clear H
                    have H := H1
                    clear H1
                    have H' := Aside0.mk H
                    clear H
                    go_wp2
                    go_roundg kj14
                    case measure => have := HK1.out; have := HJ12.out; have := HJ14.out; omega
                    case rel => exact ⟨(x5_12), (wrap64 (x6_1 + 1)), (x221001_1), (x221002_1), (x222000_1), (x222001_1), (x222002_1), (x223000_1), (x223001_1), (x223002_1), (u222000), (by first | rfl | (simp; done) | (simp [*]; done)), (by first | rfl | (simp; done) | (simp [*]; done)), H', ⟨by have := HK1.out; have := HJ12.out; have := HJ14.out; omega⟩, ⟨by (with_reducible repeat (first | apply Kd.R_alloc | apply Kd.R_drewN | apply Kd.R_drew)); exact HO_222000.out⟩, ⟨by (with_reducible repeat (first | refine blk_drewN ?_ _ | refine blk_drew ?_ | refine blk_alloc ?_ _)); exact BK220.out⟩, ⟨by (with_reducible repeat (first | refine blk_drewN ?_ _ | refine blk_drew ?_ | refine blk_alloc ?_ _)); exact BK221.out⟩, ⟨by (with_reducible repeat (first | refine blk_drewN ?_ _ | refine blk_drew ?_ | refine blk_alloc ?_ _)); exact BK222.out⟩, ⟨by repeat (first | (with_reducible first | exact HB.out | apply below_alloc | apply pw_below_drewN | apply below_drew1 | refine below_set ?_ GE220.out | refine below_set ?_ GE221.out | refine below_set ?_ GE222.out) | exact HB.out)⟩⟩
                  · replace c23 := Bool.eq_false_iff.mpr c23
                    subst c23
                    have H1 : ((colophonref10_begins.f kj14 a0 x6_1).bind fun t224 => (if t224 = 0 then (some (x222000_1, 100, x6_1)) else ((colophonref10_ends.f kj14 a0 x6_1 t224).bind fun bt225 => (if bt225.2 = 0 then (if 0 ≤ x223000_1 then (if x223000_1 ≤ x6_1 then (if x6_1 ≤ (a0.size : Int) then ((colophonref03_Advance.f x223000_1 x223001_1 x223002_1 (cutS a0 (x223000_1 : Int).toNat (x6_1 : Int).toNat)).bind fun bt228 => (if 0 ≤ x6_1 then (if x6_1 ≤ bt225.1 then (if bt225.1 ≤ (a0.size : Int) then ((colophonref04_IsKey.f kj14 (cutS a0 (x6_1 : Int).toNat (bt225.1 : Int).toNat)).bind fun t232 => (if t224 = 1 then (colophonref10_Find.j3 kj14 a0 t224 t232 x222000_1 x222001_1 x222002_1 bt228.1 bt228.2.1 bt228.2.2 bt225.1 bt225.2 t224 (cutS a0 (x6_1 : Int).toNat (bt225.1 : Int).toNat) bt228.1 bt228.2.1 bt228.2.2 x5_12) else (colophonref10_Find.j3 kj14 a0 t224 false x222000_1 x222001_1 x222002_1 bt228.1 bt228.2.1 bt228.2.2 bt225.1 bt225.2 t224 (cutS a0 (x6_1 : Int).toNat (bt225.1 : Int).toNat) bt228.1 bt228.2.1 bt228.2.2 x5_12))) else (none)) else (none)) else (none))) else (none)) else (none)) else (none)) else (some (x222000_1, bt225.2, bt225.1)))))) = some (r1, r2, r3) := by rw [if_neg (show ¬ (false = true) by decide)] at H; exact H
                    clear H
                    have H := H1
                    clear H1
                    replace H := Option.bind_eq_some_iff.mp H
                    obtain ⟨t224, A240, H⟩ := H
                    replace H : (if t224 = 0 then (some (x222000_1, 100, x6_1)) else ((colophonref10_ends.f kj14 a0 x6_1 t224).bind fun bt225 => (if bt225.2 = 0 then (if 0 ≤ x223000_1 then (if x223000_1 ≤ x6_1 then (if x6_1 ≤ (a0.size : Int) then ((colophonref03_Advance.f x223000_1 x223001_1 x223002_1 (cutS a0 (x223000_1 : Int).toNat (x6_1 : Int).toNat)).bind fun bt228 => (if 0 ≤ x6_1 then (if x6_1 ≤ bt225.1 then (if bt225.1 ≤ (a0.size : Int) then ((colophonref04_IsKey.f kj14 (cutS a0 (x6_1 : Int).toNat (bt225.1 : Int).toNat)).bind fun t232 => (if t224 = 1 then (colophonref10_Find.j3 kj14 a0 t224 t232 x222000_1 x222001_1 x222002_1 bt228.1 bt228.2.1 bt228.2.2 bt225.1 bt225.2 t224 (cutS a0 (x6_1 : Int).toNat (bt225.1 : Int).toNat) bt228.1 bt228.2.1 bt228.2.2 x5_12) else (colophonref10_Find.j3 kj14 a0 t224 false x222000_1 x222001_1 x222002_1 bt228.1 bt228.2.1 bt228.2.2 bt225.1 bt225.2 t224 (cutS a0 (x6_1 : Int).toNat (bt225.1 : Int).toNat) bt228.1 bt228.2.1 bt228.2.2 x5_12))) else (none)) else (none)) else (none))) else (none)) else (none)) else (none)) else (some (x222000_1, bt225.2, bt225.1))))) = some (r1, r2, r3) := H
                    have A24 := Aside0.mk A240
                    clear A240
                    by_cases c25 : t224 = 0
                    · rw [if_pos c25] at H
                      have c25b0 : (t224 == 0) = true := beq_iff_eq.mpr c25
                      have c25b1 : (t224 != 0) = false := bne_eq_false_iff_eq.mpr c25
                      clear c25
                      simp only [Option.some.injEq, Prod.mk.injEq] at H
                      obtain ⟨rfl, rfl, rfl⟩ := H
                      go_wp2_with (first | ((with_reducible refine gate_callee (f := 32) rfl ?_); refine goesL_ (some 37) rfl rfl Tryz.func32 (by kernel_rfl) rfl #[.string a0, .int .i64 x6_1] rfl (by (try simp only [List.map_toArray, List.map_cons, List.map_nil]); first | done | rfl | (simp only [List.length_drop, List.length_take]; rfl)) ?_; (with_reducible refine (colophonref10_begins.calls kj14 a0 x6_1 t224 _ A24.out).mono ?_); rintro e w26 ⟨rfl, hb⟩; refine ⟨_, rfl, ?_⟩; have n0_ := Aside0.mk (Kd.R_below (by (with_reducible repeat (first | apply Kd.R_alloc | apply Kd.R_drewN | apply Kd.R_drew)); exact HO_222000.out) hb); have n1_ := Aside0.mk (blk_below (g := gb220) (o := .cells #[.slice none 0 0, .int .i64 x221001_1, .int .i64 x221002_1] 68 (0, 0)) (by (with_reducible repeat (first | refine blk_drewN ?_ _ | refine blk_drew ?_ | refine blk_alloc ?_ _)); exact BK220.out) hb); have n2_ := Aside0.mk (blk_below (g := gb221) (o := .cells #[u222000, .int .i64 x222001_1, .int .i64 x222002_1] 68 (0, 0)) (by (with_reducible repeat (first | refine blk_drewN ?_ _ | refine blk_drew ?_ | refine blk_alloc ?_ _)); exact BK221.out) hb); have n3_ := Aside0.mk (blk_below (g := gb222) (o := .cells #[.int .i64 x223000_1, .int .i64 x223001_1, .int .i64 x223002_1] 26 (0, 0)) (by (with_reducible repeat (first | refine blk_drewN ?_ _ | refine blk_drew ?_ | refine blk_alloc ?_ _)); exact BK222.out) hb); have n4_ := Aside0.mk (below_step (by repeat (first | (with_reducible first | exact HB.out | apply below_alloc | apply pw_below_drewN | apply below_drew1 | refine below_set ?_ GE220.out | refine below_set ?_ GE221.out | refine below_set ?_ GE222.out) | exact HB.out)) hb); clear HO_222000; clear BK220; clear BK221; clear BK222; clear HB; have HO_222000 := n0_; have BK220 := n1_; have BK221 := n2_; have BK222 := n3_; have HB := n4_; clear n0_ n1_ n2_ n3_ n4_; (try clear hb); (try clear hb2); (try clear hk); (try clear hi); have hnb27 := NB221_220.out; have hnc27 := NB220_221.out; have hnb28 := NB221_222.out; have hnc28 := NB222_221.out; have hcz29_0 : w26.cell? ⟨gb221, 0, none⟩ = some (u222000) := (blk_cell BK221.out 0).trans rfl; have hcz29_1 : w26.cell? ⟨gb221, 1, none⟩ = some (.int .i64 x222001_1) := (blk_cell BK221.out 1).trans rfl; have hcz29_2 : w26.cell? ⟨gb221, 2, none⟩ = some (.int .i64 x222002_1) := (blk_cell BK221.out 2).trans rfl; have hfz29_0 := blk_frozen BK221.out 0; have hfz29_1 := blk_frozen BK221.out 1; have hfz29_2 := blk_frozen BK221.out 2; obtain ⟨Ao30, co30, eo30⟩ := Kd.R_slice HO_222000.out; subst eo30; have hnb31 := NB220_222.out; have hnc31 := NB222_220.out; have hcz32_0 : w26.cell? ⟨gb220, 0, none⟩ = some (.slice none 0 0) := (blk_cell BK220.out 0).trans rfl; have hcz32_1 : w26.cell? ⟨gb220, 1, none⟩ = some (.int .i64 x221001_1) := (blk_cell BK220.out 1).trans rfl; have hcz32_2 : w26.cell? ⟨gb220, 2, none⟩ = some (.int .i64 x221002_1) := (blk_cell BK220.out 2).trans rfl; have hfz32_0 := blk_frozen BK220.out 0; have hfz32_1 := blk_frozen BK220.out 1; have hfz32_2 := blk_frozen BK220.out 2))
                      refine bodyPost_ret (results_cell_row rfl _ _ gb220 68 #[.slice Ao30 x222000_1.length co30, .int .i64 100, .int .i64 x6_1] (0, 0) _ rfl (by (with_reducible repeat (first | refine blk_drewN ?_ _ | refine blk_drew ?_ | refine blk_alloc ?_ _)); refine blk_put (cs := #[.slice Ao30 x222000_1.length co30, .int .i64 100, .int .i64 x221002_1]) ?_ 2 _ rfl; (with_reducible repeat (first | refine blk_drewN ?_ _ | refine blk_drew ?_ | refine blk_alloc ?_ _)); refine blk_put (cs := #[.slice Ao30 x222000_1.length co30, .int .i64 x221001_1, .int .i64 x221002_1]) ?_ 1 _ rfl; (with_reducible repeat (first | refine blk_drewN ?_ _ | refine blk_drew ?_ | refine blk_alloc ?_ _)); refine blk_put (cs := #[.slice none 0 0, .int .i64 x221001_1, .int .i64 x221002_1]) ?_ 0 _ rfl; (with_reducible repeat (first | refine blk_drewN ?_ _ | refine blk_drew ?_ | refine blk_alloc ?_ _)); refine blk_far ?_ NB220_221.out _; (with_reducible repeat (first | refine blk_drewN ?_ _ | refine blk_drew ?_ | refine blk_alloc ?_ _)); refine blk_far ?_ NB220_221.out _; (with_reducible repeat (first | refine blk_drewN ?_ _ | refine blk_drew ?_ | refine blk_alloc ?_ _)); exact BK220.out) Tryz.underlying68 rfl (by kernel_rfl)) rfl ?_
                      exact ⟨_, by first | rfl | (simp [errW_none, errW_some] <;> rfl) | (simp [*, errW_none, errW_some] <;> rfl), by (with_reducible repeat (first | apply Kd.R_alloc | apply Kd.R_drewN | apply Kd.R_drew)); exact Kd.R_mono (Kd.R_far (p := ⟨gb220, 2, none⟩) (Kd.R_far (p := ⟨gb220, 1, none⟩) (Kd.R_far (p := ⟨gb220, 0, none⟩) (Kd.R_far (p := ⟨gb221, 2, none⟩) (Kd.R_far (p := ⟨gb221, 1, none⟩) (Kd.R_types (Kd.R_types HO_222000.out BK221.out (by decide)) BK220.out (by decide)) (fun _ hk => hk.1.2) (.int .i64 100)) (fun _ hk => hk.1.2) (.int .i64 x6_1)) (fun _ hk => hk.2) (.slice Ao30 x222000_1.length co30)) (fun _ hk => hk.2) (.int .i64 100)) (fun _ hk => hk.2) (.int .i64 x6_1)) (fun _ hk => trivial), by repeat (first | (with_reducible first | exact HB.out | apply below_alloc | apply pw_below_drewN | apply below_drew1 | refine below_set ?_ GE220.out | refine below_set ?_ GE221.out | refine below_set ?_ GE222.out) | exact HB.out)⟩
                    · rw [if_neg c25] at H
                      have c25b0 : (t224 == 0) = false := beq_eq_false_iff_ne.mpr c25
                      have c25b1 : (t224 != 0) = true := bne_iff_ne.mpr c25
                      replace H := Option.bind_eq_some_iff.mp H
                      obtain ⟨⟨t225, t226⟩, A330, H⟩ := H
                      replace H : (if t226 = 0 then (if 0 ≤ x223000_1 then (if x223000_1 ≤ x6_1 then (if x6_1 ≤ (a0.size : Int) then ((colophonref03_Advance.f x223000_1 x223001_1 x223002_1 (cutS a0 (x223000_1 : Int).toNat (x6_1 : Int).toNat)).bind fun bt228 => (if 0 ≤ x6_1 then (if x6_1 ≤ t225 then (if t225 ≤ (a0.size : Int) then ((colophonref04_IsKey.f kj14 (cutS a0 (x6_1 : Int).toNat (t225 : Int).toNat)).bind fun t232 => (if t224 = 1 then (colophonref10_Find.j3 kj14 a0 t224 t232 x222000_1 x222001_1 x222002_1 bt228.1 bt228.2.1 bt228.2.2 t225 t226 t224 (cutS a0 (x6_1 : Int).toNat (t225 : Int).toNat) bt228.1 bt228.2.1 bt228.2.2 x5_12) else (colophonref10_Find.j3 kj14 a0 t224 false x222000_1 x222001_1 x222002_1 bt228.1 bt228.2.1 bt228.2.2 t225 t226 t224 (cutS a0 (x6_1 : Int).toNat (t225 : Int).toNat) bt228.1 bt228.2.1 bt228.2.2 x5_12))) else (none)) else (none)) else (none))) else (none)) else (none)) else (none)) else (some (x222000_1, t226, t225))) = some (r1, r2, r3) := H
                      have A33 := Aside0.mk A330
                      clear A330
                      by_cases c34 : t226 = 0
                      · rw [if_pos c34] at H
                        have c34b0 : (t226 == 0) = true := beq_iff_eq.mpr c34
                        have c34b1 : (t226 != 0) = false := bne_eq_false_iff_eq.mpr c34
                        clear c34
                        by_cases c35 : 0 ≤ x223000_1
                        · rw [if_pos c35] at H
                          have c35b0 := eq_true c35
                          have c35b1 : decide (0 ≤ x223000_1) = true := decide_eq_true c35
                          clear c35
                          by_cases c36 : x223000_1 ≤ x6_1
                          · rw [if_pos c36] at H
                            have c36b0 := eq_true c36
                            have c36b1 : decide (x223000_1 ≤ x6_1) = true := decide_eq_true c36
                            clear c36
                            by_cases c37 : x6_1 ≤ (a0.size : Int)
                            · rw [if_pos c37] at H
                              have c37b0 := eq_true c37
                              have c37b1 : decide (x6_1 ≤ (a0.size : Int)) = true := decide_eq_true c37
                              clear c37
                              replace H := Option.bind_eq_some_iff.mp H
                              obtain ⟨⟨t228, t229, t230⟩, A380, H⟩ := H
                              replace H : (if 0 ≤ x6_1 then (if x6_1 ≤ t225 then (if t225 ≤ (a0.size : Int) then ((colophonref04_IsKey.f kj14 (cutS a0 (x6_1 : Int).toNat (t225 : Int).toNat)).bind fun t232 => (if t224 = 1 then (colophonref10_Find.j3 kj14 a0 t224 t232 x222000_1 x222001_1 x222002_1 t228 t229 t230 t225 t226 t224 (cutS a0 (x6_1 : Int).toNat (t225 : Int).toNat) t228 t229 t230 x5_12) else (colophonref10_Find.j3 kj14 a0 t224 false x222000_1 x222001_1 x222002_1 t228 t229 t230 t225 t226 t224 (cutS a0 (x6_1 : Int).toNat (t225 : Int).toNat) t228 t229 t230 x5_12))) else (none)) else (none)) else (none)) = some (r1, r2, r3) := H
                              have A38 := Aside0.mk A380
                              clear A380
                              by_cases c39 : 0 ≤ x6_1
                              · rw [if_pos c39] at H
                                have c39b0 := eq_true c39
                                have c39b1 : decide (0 ≤ x6_1) = true := decide_eq_true c39
                                clear c39
                                by_cases c40 : x6_1 ≤ t225
                                · rw [if_pos c40] at H
                                  have c40b0 := eq_true c40
                                  have c40b1 : decide (x6_1 ≤ t225) = true := decide_eq_true c40
                                  clear c40
                                  by_cases c41 : t225 ≤ (a0.size : Int)
                                  · rw [if_pos c41] at H
                                    have c41b0 := eq_true c41
                                    have c41b1 : decide (t225 ≤ (a0.size : Int)) = true := decide_eq_true c41
                                    clear c41
                                    replace H := Option.bind_eq_some_iff.mp H
                                    obtain ⟨t232, A420, H⟩ := H
                                    replace H : (if t224 = 1 then (colophonref10_Find.j3 kj14 a0 t224 t232 x222000_1 x222001_1 x222002_1 t228 t229 t230 t225 t226 t224 (cutS a0 (x6_1 : Int).toNat (t225 : Int).toNat) t228 t229 t230 x5_12) else (colophonref10_Find.j3 kj14 a0 t224 false x222000_1 x222001_1 x222002_1 t228 t229 t230 t225 t226 t224 (cutS a0 (x6_1 : Int).toNat (t225 : Int).toNat) t228 t229 t230 x5_12)) = some (r1, r2, r3) := H
                                    have A42 := Aside0.mk A420
                                    clear A420
                                    have HC43 := Aside0.mk H
                                    clear H
                                    try go_wp2_with (first | ((with_reducible refine gate_callee (f := 32) rfl ?_); refine goesL_ (some 37) rfl rfl Tryz.func32 (by kernel_rfl) rfl #[.string a0, .int .i64 x6_1] rfl (by (try simp only [List.map_toArray, List.map_cons, List.map_nil]); first | done | rfl | (simp only [List.length_drop, List.length_take]; rfl)) ?_; (with_reducible refine (colophonref10_begins.calls kj14 a0 x6_1 t224 _ A24.out).mono ?_); rintro e w44 ⟨rfl, hb⟩; refine ⟨_, rfl, ?_⟩; have n0_ := Aside0.mk (Kd.R_below (by (with_reducible repeat (first | apply Kd.R_alloc | apply Kd.R_drewN | apply Kd.R_drew)); exact HO_222000.out) hb); have n1_ := Aside0.mk (blk_below (g := gb220) (o := .cells #[.slice none 0 0, .int .i64 x221001_1, .int .i64 x221002_1] 68 (0, 0)) (by (with_reducible repeat (first | refine blk_drewN ?_ _ | refine blk_drew ?_ | refine blk_alloc ?_ _)); exact BK220.out) hb); have n2_ := Aside0.mk (blk_below (g := gb221) (o := .cells #[u222000, .int .i64 x222001_1, .int .i64 x222002_1] 68 (0, 0)) (by (with_reducible repeat (first | refine blk_drewN ?_ _ | refine blk_drew ?_ | refine blk_alloc ?_ _)); exact BK221.out) hb); have n3_ := Aside0.mk (blk_below (g := gb222) (o := .cells #[.int .i64 x223000_1, .int .i64 x223001_1, .int .i64 x223002_1] 26 (0, 0)) (by (with_reducible repeat (first | refine blk_drewN ?_ _ | refine blk_drew ?_ | refine blk_alloc ?_ _)); exact BK222.out) hb); have n4_ := Aside0.mk (below_step (by repeat (first | (with_reducible first | exact HB.out | apply below_alloc | apply pw_below_drewN | apply below_drew1 | refine below_set ?_ GE220.out | refine below_set ?_ GE221.out | refine below_set ?_ GE222.out) | exact HB.out)) hb); clear HO_222000; clear BK220; clear BK221; clear BK222; clear HB; have HO_222000 := n0_; have BK220 := n1_; have BK221 := n2_; have BK222 := n3_; have HB := n4_; clear n0_ n1_ n2_ n3_ n4_; (try clear hb); (try clear hb2); (try clear hk); (try clear hi)) | ((with_reducible refine gate_callee (f := 33) rfl ?_); refine goesL_ (some 47) rfl rfl Tryz.func33 (by kernel_rfl) rfl #[.string a0, .int .i64 x6_1, .int .u8 t224] rfl (by (try simp only [List.map_toArray, List.map_cons, List.map_nil]); first | done | rfl | (simp only [List.length_drop, List.length_take]; rfl)) ?_; (with_reducible refine (colophonref10_ends.calls kj14 a0 x6_1 t224 t225 t226 _ A33.out).mono ?_); rintro e w45 ⟨rfl, hb⟩; refine ⟨_, rfl, ?_⟩; have n0_ := Aside0.mk (Kd.R_below (by (with_reducible repeat (first | apply Kd.R_alloc | apply Kd.R_drewN | apply Kd.R_drew)); exact HO_222000.out) hb); have n1_ := Aside0.mk (blk_below (g := gb220) (o := .cells #[.slice none 0 0, .int .i64 x221001_1, .int .i64 x221002_1] 68 (0, 0)) (by (with_reducible repeat (first | refine blk_drewN ?_ _ | refine blk_drew ?_ | refine blk_alloc ?_ _)); exact BK220.out) hb); have n2_ := Aside0.mk (blk_below (g := gb221) (o := .cells #[u222000, .int .i64 x222001_1, .int .i64 x222002_1] 68 (0, 0)) (by (with_reducible repeat (first | refine blk_drewN ?_ _ | refine blk_drew ?_ | refine blk_alloc ?_ _)); exact BK221.out) hb); have n3_ := Aside0.mk (blk_below (g := gb222) (o := .cells #[.int .i64 x223000_1, .int .i64 x223001_1, .int .i64 x223002_1] 26 (0, 0)) (by (with_reducible repeat (first | refine blk_drewN ?_ _ | refine blk_drew ?_ | refine blk_alloc ?_ _)); exact BK222.out) hb); have n4_ := Aside0.mk (below_step (by repeat (first | (with_reducible first | exact HB.out | apply below_alloc | apply pw_below_drewN | apply below_drew1 | refine below_set ?_ GE220.out | refine below_set ?_ GE221.out | refine below_set ?_ GE222.out) | exact HB.out)) hb); clear HO_222000; clear BK220; clear BK221; clear BK222; clear HB; have HO_222000 := n0_; have BK220 := n1_; have BK221 := n2_; have BK222 := n3_; have HB := n4_; clear n0_ n1_ n2_ n3_ n4_; (try clear hb); (try clear hb2); (try clear hk); (try clear hi)) | ((with_reducible refine gate_dst (N := 8) rfl ?_); (try (refine gate_guard (by rfl) ?_; dsimp only)); refine box_event ?hg (N := 8) ?hd (cs := #[.int .i64 0, .int .i64 0]) (t := 90) ?hr ?_; (case hd => rfl); (case hg => rfl); (case hr => first | (go_simp; done) | (go_simp; rfl)); intro gb227 hg w46 hbox hb; have n0_ := Aside0.mk (Kd.R_below (by (with_reducible repeat (first | apply Kd.R_alloc | apply Kd.R_drewN | apply Kd.R_drew)); exact HO_222000.out) hb); have n1_ := Aside0.mk (blk_below (g := gb220) (o := .cells #[.slice none 0 0, .int .i64 x221001_1, .int .i64 x221002_1] 68 (0, 0)) (by (with_reducible repeat (first | refine blk_drewN ?_ _ | refine blk_drew ?_ | refine blk_alloc ?_ _)); exact BK220.out) hb); have n2_ := Aside0.mk (blk_below (g := gb221) (o := .cells #[u222000, .int .i64 x222001_1, .int .i64 x222002_1] 68 (0, 0)) (by (with_reducible repeat (first | refine blk_drewN ?_ _ | refine blk_drew ?_ | refine blk_alloc ?_ _)); exact BK221.out) hb); have n3_ := Aside0.mk (blk_below (g := gb222) (o := .cells #[.int .i64 x223000_1, .int .i64 x223001_1, .int .i64 x223002_1] 26 (0, 0)) (by (with_reducible repeat (first | refine blk_drewN ?_ _ | refine blk_drew ?_ | refine blk_alloc ?_ _)); exact BK222.out) hb); have n4_ := Aside0.mk (below_step (by repeat (first | (with_reducible first | exact HB.out | apply below_alloc | apply pw_below_drewN | apply below_drew1 | refine below_set ?_ GE220.out | refine below_set ?_ GE221.out | refine below_set ?_ GE222.out) | exact HB.out)) hb); have n5_ := Aside0.mk (hbox); have n6_ := Aside0.mk ((by rw [hg]; exact (below_size (by repeat (first | (with_reducible first | exact HB.out | apply below_alloc | apply pw_below_drewN | apply below_drew1 | refine below_set ?_ GE220.out | refine below_set ?_ GE221.out | refine below_set ?_ GE222.out) | exact HB.out))) : w.heap.size ≤ gb227)); have n7_ := Aside0.mk ((by rw [hg]; exact (below_size (by repeat (first | (with_reducible first | exact HB.out | apply below_alloc | apply pw_below_drewN | apply below_drew1 | refine below_set ?_ GE220.out | refine below_set ?_ GE221.out | refine below_set ?_ GE222.out) | exact HB.out))) : w.heap.size ≤ gb227)); have n8_ := Aside0.mk ((by rw [hg]; exact Nat.ne_of_lt (blk_lt (g := gb220) (o := .cells #[.slice none 0 0, .int .i64 x221001_1, .int .i64 x221002_1] 68 (0, 0)) (by (with_reducible repeat (first | refine blk_drewN ?_ _ | refine blk_drew ?_ | refine blk_alloc ?_ _)); exact BK220.out)) : gb220 ≠ gb227)); have n9_ := Aside0.mk ((by rw [hg]; exact Nat.ne_of_gt (blk_lt (g := gb220) (o := .cells #[.slice none 0 0, .int .i64 x221001_1, .int .i64 x221002_1] 68 (0, 0)) (by (with_reducible repeat (first | refine blk_drewN ?_ _ | refine blk_drew ?_ | refine blk_alloc ?_ _)); exact BK220.out)) : gb227 ≠ gb220)); have n10_ := Aside0.mk ((by rw [hg]; exact Nat.ne_of_lt (blk_lt (g := gb221) (o := .cells #[u222000, .int .i64 x222001_1, .int .i64 x222002_1] 68 (0, 0)) (by (with_reducible repeat (first | refine blk_drewN ?_ _ | refine blk_drew ?_ | refine blk_alloc ?_ _)); exact BK221.out)) : gb221 ≠ gb227)); have n11_ := Aside0.mk ((by rw [hg]; exact Nat.ne_of_gt (blk_lt (g := gb221) (o := .cells #[u222000, .int .i64 x222001_1, .int .i64 x222002_1] 68 (0, 0)) (by (with_reducible repeat (first | refine blk_drewN ?_ _ | refine blk_drew ?_ | refine blk_alloc ?_ _)); exact BK221.out)) : gb227 ≠ gb221)); have n12_ := Aside0.mk ((by rw [hg]; exact Nat.ne_of_lt (blk_lt (g := gb222) (o := .cells #[.int .i64 x223000_1, .int .i64 x223001_1, .int .i64 x223002_1] 26 (0, 0)) (by (with_reducible repeat (first | refine blk_drewN ?_ _ | refine blk_drew ?_ | refine blk_alloc ?_ _)); exact BK222.out)) : gb222 ≠ gb227)); have n13_ := Aside0.mk ((by rw [hg]; exact Nat.ne_of_gt (blk_lt (g := gb222) (o := .cells #[.int .i64 x223000_1, .int .i64 x223001_1, .int .i64 x223002_1] 26 (0, 0)) (by (with_reducible repeat (first | refine blk_drewN ?_ _ | refine blk_drew ?_ | refine blk_alloc ?_ _)); exact BK222.out)) : gb227 ≠ gb222)); clear HO_222000; clear BK220; clear BK221; clear BK222; clear HB; have HO_222000 := n0_; have BK220 := n1_; have BK221 := n2_; have BK222 := n3_; have HB := n4_; have BK227 := n5_; have GW227 := n6_; have GE227 := n7_; have NB220_227 := n8_; have NB227_220 := n9_; have NB221_227 := n10_; have NB227_221 := n11_; have NB222_227 := n12_; have NB227_222 := n13_; clear n0_ n1_ n2_ n3_ n4_ n5_ n6_ n7_ n8_ n9_ n10_ n11_ n12_ n13_; clear hb hbox hg; have hnb47 := NB227_220.out; have hnc47 := NB220_227.out; have hnb48 := NB227_221.out; have hnc48 := NB221_227.out; have hnb49 := NB227_222.out; have hnc49 := NB222_227.out; have hcz50_0 : w46.cell? ⟨gb227, 0, none⟩ = some (.int .i64 0) := (blk_cell BK227.out 0).trans rfl; have hcz50_1 : w46.cell? ⟨gb227, 1, none⟩ = some (.int .i64 0) := (blk_cell BK227.out 1).trans rfl; have hfz50_0 := blk_frozen BK227.out 0; have hfz50_1 := blk_frozen BK227.out 1))
                                    have n0_ : Aside0 (Kd.R k48 48 ((w46.setCell ⟨gb227, 0, none⟩ (.int .i64 t225)).setCell ⟨gb227, 1, none⟩ (.int .i64 t226)) w.heap.size (fun _ => True) u222000 x222000_1) := ⟨by (with_reducible repeat (first | apply Kd.R_alloc | apply Kd.R_drewN | apply Kd.R_drew)); exact Kd.R_mono (Kd.R_far (p := ⟨gb227, 1, none⟩) (Kd.R_far (p := ⟨gb227, 0, none⟩) (Kd.R_types HO_222000.out BK227.out (by decide)) (fun _ hk => hk.2) (.int .i64 t225)) (fun _ hk => hk.2) (.int .i64 t226)) (fun _ hk => trivial)⟩
                                    have n1_ : Aside0 (((w46.setCell ⟨gb227, 0, none⟩ (.int .i64 t225)).setCell ⟨gb227, 1, none⟩ (.int .i64 t226)).heap[gb220]? = some (.cells #[.slice none 0 0, .int .i64 x221001_1, .int .i64 x221002_1] 68 (0, 0))) := ⟨by (with_reducible repeat (first | refine blk_drewN ?_ _ | refine blk_drew ?_ | refine blk_alloc ?_ _)); refine blk_far ?_ NB220_227.out _; (with_reducible repeat (first | refine blk_drewN ?_ _ | refine blk_drew ?_ | refine blk_alloc ?_ _)); refine blk_far ?_ NB220_227.out _; (with_reducible repeat (first | refine blk_drewN ?_ _ | refine blk_drew ?_ | refine blk_alloc ?_ _)); exact BK220.out⟩
                                    have n2_ : Aside0 (((w46.setCell ⟨gb227, 0, none⟩ (.int .i64 t225)).setCell ⟨gb227, 1, none⟩ (.int .i64 t226)).heap[gb221]? = some (.cells #[u222000, .int .i64 x222001_1, .int .i64 x222002_1] 68 (0, 0))) := ⟨by (with_reducible repeat (first | refine blk_drewN ?_ _ | refine blk_drew ?_ | refine blk_alloc ?_ _)); refine blk_far ?_ NB221_227.out _; (with_reducible repeat (first | refine blk_drewN ?_ _ | refine blk_drew ?_ | refine blk_alloc ?_ _)); refine blk_far ?_ NB221_227.out _; (with_reducible repeat (first | refine blk_drewN ?_ _ | refine blk_drew ?_ | refine blk_alloc ?_ _)); exact BK221.out⟩
                                    have n3_ : Aside0 (((w46.setCell ⟨gb227, 0, none⟩ (.int .i64 t225)).setCell ⟨gb227, 1, none⟩ (.int .i64 t226)).heap[gb222]? = some (.cells #[.int .i64 x223000_1, .int .i64 x223001_1, .int .i64 x223002_1] 26 (0, 0))) := ⟨by (with_reducible repeat (first | refine blk_drewN ?_ _ | refine blk_drew ?_ | refine blk_alloc ?_ _)); refine blk_far ?_ NB222_227.out _; (with_reducible repeat (first | refine blk_drewN ?_ _ | refine blk_drew ?_ | refine blk_alloc ?_ _)); refine blk_far ?_ NB222_227.out _; (with_reducible repeat (first | refine blk_drewN ?_ _ | refine blk_drew ?_ | refine blk_alloc ?_ _)); exact BK222.out⟩
                                    have n4_ : Aside0 (((w46.setCell ⟨gb227, 0, none⟩ (.int .i64 t225)).setCell ⟨gb227, 1, none⟩ (.int .i64 t226)).heap[gb227]? = some (.cells #[.int .i64 t225, .int .i64 t226] 90 (0, 0))) := ⟨by (with_reducible repeat (first | refine blk_drewN ?_ _ | refine blk_drew ?_ | refine blk_alloc ?_ _)); refine blk_put (cs := #[.int .i64 t225, .int .i64 0]) ?_ 1 _ rfl; (with_reducible repeat (first | refine blk_drewN ?_ _ | refine blk_drew ?_ | refine blk_alloc ?_ _)); refine blk_put (cs := #[.int .i64 0, .int .i64 0]) ?_ 0 _ rfl; (with_reducible repeat (first | refine blk_drewN ?_ _ | refine blk_drew ?_ | refine blk_alloc ?_ _)); exact BK227.out⟩
                                    have n5_ : Aside0 (Below w.heap.size w ((w46.setCell ⟨gb227, 0, none⟩ (.int .i64 t225)).setCell ⟨gb227, 1, none⟩ (.int .i64 t226))) := ⟨by repeat (first | (with_reducible first | exact HB.out | apply below_alloc | apply pw_below_drewN | apply below_drew1 | refine below_set ?_ GE220.out | refine below_set ?_ GE221.out | refine below_set ?_ GE222.out | refine below_set ?_ GE227.out) | exact HB.out)⟩
                                    (try clear HO_222000)
                                    (try clear BK220)
                                    (try clear BK221)
                                    (try clear BK222)
                                    (try clear BK227)
                                    (try clear HB)
                                    generalize ((w46.setCell ⟨gb227, 0, none⟩ (.int .i64 t225)).setCell ⟨gb227, 1, none⟩ (.int .i64 t226)) = w51 at n0_ n1_ n2_ n3_ n4_ n5_ ⊢
                                    have HO_222000 := n0_
                                    have BK220 := n1_
                                    have BK221 := n2_
                                    have BK222 := n3_
                                    have BK227 := n4_
                                    have HB := n5_
                                    clear n0_ n1_ n2_ n3_ n4_ n5_
                                    have n0_ := Aside0.mk (Kd.R_drew HO_222000.out)
                                    have n1_ := Aside0.mk (blk_drew BK220.out)
                                    have n2_ := Aside0.mk (blk_drew BK221.out)
                                    have n3_ := Aside0.mk (blk_drew BK222.out)
                                    have n4_ := Aside0.mk (blk_drew BK227.out)
                                    have n5_ := Aside0.mk (below_drew1 HB.out)
                                    clear HO_222000
                                    clear BK220
                                    clear BK221
                                    clear BK222
                                    clear BK227
                                    clear HB
                                    have HO_222000 := n0_
                                    have BK220 := n1_
                                    have BK221 := n2_
                                    have BK222 := n3_
                                    have BK227 := n4_
                                    have HB := n5_
                                    clear n0_ n1_ n2_ n3_ n4_ n5_
                                    refine start_ (n := 8) (S := fun w' => w'.cell? ⟨gb222, 0, none⟩ = some (.int .i64 x223000_1) ∧ w'.cell? ⟨gb222, 1, none⟩ = some (.int .i64 x223001_1) ∧ w'.cell? ⟨gb222, 2, none⟩ = some (.int .i64 x223002_1)) (ds := [7]) #[false, false, false, false, false, false, false, false] (by kernel_rfl) rfl rfl ⟨(blk_cell BK222.out 0).trans rfl, (blk_cell BK222.out 1).trans rfl, (blk_cell BK222.out 2).trans rfl⟩ (fun hHeld => ?_); refine with_tabW colophonref10_Find.tab20 colophonref10_Find.bits20 (fun HT_ HW_ => ?_)
                                    generalize w51.drew = w52 at HO_222000 BK220 BK221 BK222 BK227 HB hHeld ⊢
                                    refine pure_ (i := 1) (N := some 59) (v := ?_) (a' := ?_) #[false, true, false, false, false, false, false, false] rfl rfl (any_of HT_.out (by kernel_rfl)) (fun _ _ _ h => h) (Or.inl ⟨by rfl, ?_⟩) ?_ ?_
                                    rotate_left
                                    · intro w'
                                      go_simp
                                      with_reducible rfl
                                    rotate_left
                                    · simp only [Act.put, List.setIfInBounds_toArray, List.set_cons_zero, List.set_cons_succ, i64_w, i32_w]
                                      rfl
                                    refine pure_ (i := 2) (N := some 60) (v := ?_) (a' := ?_) #[false, true, true, false, false, false, false, false] rfl rfl (any_of HT_.out (by kernel_rfl)) (fun _ _ _ h => h) (Or.inl ⟨by rfl, ?_⟩) ?_ ?_
                                    rotate_left
                                    · intro w'
                                      go_simp
                                      with_reducible rfl
                                    rotate_left
                                    · simp only [Act.put, List.setIfInBounds_toArray, List.set_cons_zero, List.set_cons_succ, i64_w, i32_w]
                                      rfl
                                    refine pure_ (i := 4) (N := some 62) (v := ?_) (a' := ?_) #[false, true, true, false, true, false, false, false] rfl rfl (any_of HT_.out (by kernel_rfl)) (fun _ _ _ h => h) (Or.inl ⟨by rfl, ?_⟩) ?_ ?_
                                    rotate_left
                                    · intro w'
                                      go_simp
                                      with_reducible rfl
                                    rotate_left
                                    · simp only [Act.put, List.setIfInBounds_toArray, List.set_cons_zero, List.set_cons_succ, i64_w, i32_w]
                                      rfl
                                    refine take_ (i := 0) (N := some 58) (v := ?_) (a' := ?_) #[true, true, true, false, true, false, false, false] rfl rfl (take_ofW HT_.out HW_.out (by kernel_rfl)) (fun _ _ _ h => h) (Or.inl ⟨by rfl, ?_⟩) hHeld ?_ ?_
                                    rotate_left
                                    · rintro w' ⟨s0, s1, s2⟩
                                      go_simp
                                      with_reducible rfl
                                    rotate_left
                                    · simp only [Act.put, List.setIfInBounds_toArray, List.set_cons_zero, List.set_cons_succ, i64_w, i32_w]
                                      rfl
                                    refine take_ (i := 3) (N := some 61) (v := ?_) (a' := ?_) #[true, true, true, true, true, false, false, false] rfl rfl (take_ofW HT_.out HW_.out (by kernel_rfl)) (fun _ _ _ h => h) (Or.inl ⟨by rfl, ?_⟩) hHeld ?_ ?_
                                    rotate_left
                                    · rintro w' ⟨s0, s1, s2⟩
                                      go_simp
                                      with_reducible rfl
                                    rotate_left
                                    · simp only [Act.put, List.setIfInBounds_toArray, List.set_cons_zero, List.set_cons_succ, i64_w, i32_w]
                                      rfl
                                    refine pure_ (i := 5) (N := some 63) (v := ?_) (a' := ?_) #[true, true, true, true, true, true, false, false] rfl rfl (any_of HT_.out (by kernel_rfl)) (fun _ _ _ h => h) (Or.inl ⟨by rfl, ?_⟩) ?_ ?_
                                    rotate_left
                                    · intro w'
                                      go_simp
                                      with_reducible rfl
                                    rotate_left
                                    · simp only [Act.put, List.setIfInBounds_toArray, List.set_cons_zero, List.set_cons_succ, i64_w, i32_w]
                                      rfl
                                    refine one_ (i := 6) (N := some 64) #[true, true, true, true, true, true, true, false] rfl rfl (one_of HT_.out (by kernel_rfl)) (by decide) (fun K hK => ?_)
                                    refine goes_ Tryz.func21 (by kernel_rfl) rfl #[.agg #[.int .i64 x223000_1, .int .i64 x223001_1, .int .i64 x223002_1], .string (cutS a0 (x223000_1 : Int).toNat (x6_1 : Int).toNat)] (by rfl) rfl rfl (by (try simp only [List.map_toArray, List.map_cons, List.map_nil]); first | done | rfl | (simp only [List.length_drop, List.length_take]; rfl)) ?_
                                    with_reducible refine (colophonref03_Advance.calls x223000_1 x223001_1 x223002_1 (cutS a0 (x223000_1 : Int).toNat (x6_1 : Int).toNat) t228 t229 t230 _ A38.out).mono ?_
                                    rintro e w53 ⟨rfl, hb⟩
                                    refine ⟨_, rfl, ?_⟩
                                    have n0_ := Aside0.mk (Kd.R_below (by (with_reducible repeat (first | apply Kd.R_alloc | apply Kd.R_drewN | apply Kd.R_drew)); exact HO_222000.out) hb)
                                    have n1_ := Aside0.mk (blk_below (g := gb220) (o := .cells #[.slice none 0 0, .int .i64 x221001_1, .int .i64 x221002_1] 68 (0, 0)) (by (with_reducible repeat (first | refine blk_drewN ?_ _ | refine blk_drew ?_ | refine blk_alloc ?_ _)); exact BK220.out) hb)
                                    have n2_ := Aside0.mk (blk_below (g := gb221) (o := .cells #[u222000, .int .i64 x222001_1, .int .i64 x222002_1] 68 (0, 0)) (by (with_reducible repeat (first | refine blk_drewN ?_ _ | refine blk_drew ?_ | refine blk_alloc ?_ _)); exact BK221.out) hb)
                                    have n3_ := Aside0.mk (blk_below (g := gb222) (o := .cells #[.int .i64 x223000_1, .int .i64 x223001_1, .int .i64 x223002_1] 26 (0, 0)) (by (with_reducible repeat (first | refine blk_drewN ?_ _ | refine blk_drew ?_ | refine blk_alloc ?_ _)); exact BK222.out) hb)
                                    have n4_ := Aside0.mk (blk_below (g := gb227) (o := .cells #[.int .i64 t225, .int .i64 t226] 90 (0, 0)) (by (with_reducible repeat (first | refine blk_drewN ?_ _ | refine blk_drew ?_ | refine blk_alloc ?_ _)); exact BK227.out) hb)
                                    have n5_ := Aside0.mk (below_step (by repeat (first | (with_reducible first | exact HB.out | apply below_alloc | apply pw_below_drewN | apply below_drew1 | refine below_set ?_ GE220.out | refine below_set ?_ GE221.out | refine below_set ?_ GE222.out | refine below_set ?_ GE227.out) | exact HB.out)) hb)
                                    clear HO_222000
                                    clear BK220
                                    clear BK221
                                    clear BK222
                                    clear BK227
                                    clear HB
                                    have HO_222000 := n0_
                                    have BK220 := n1_
                                    have BK221 := n2_
                                    have BK222 := n3_
                                    have BK227 := n4_
                                    have HB := n5_
                                    clear n0_ n1_ n2_ n3_ n4_ n5_
                                    (try clear hb)
                                    (try clear hb2)
                                    (try clear hk)
                                    (try clear hi)
                                    refine hK.out _ _ ⟨(blk_cell BK222.out 0).trans rfl, (blk_cell BK222.out 1).trans rfl, (blk_cell BK222.out 2).trans rfl⟩ (fun hHeld => ?_)
                                    clear hK K
                                    refine norm_ (a' := ?_) ?_ ?_
                                    rotate_left
                                    · show Act.put _ (some 64) _ = _
                                      simp only [Act.put, List.setIfInBounds_toArray, List.set_cons_zero, List.set_cons_succ, i64_w, i32_w]
                                      rfl
                                    refine last_ (i := 7) (N := none) #[true, true, true, true, true, true, true, true] rfl rfl (one_of HT_.out (by kernel_rfl)) (by decide) (fun K hK => ?_)
                                    have hs54 : w53.cell? ⟨gb222, 0, none⟩ = some (.int .i64 x223000_1) := (blk_cell BK222.out 0).trans rfl
                                    have hfs54 := blk_frozen BK222.out 0
                                    have hns54_0 := NB220_222.out
                                    have hns54_1 := NB221_222.out
                                    have hns54_3 := NB227_222.out
                                    have hms54_0 := NB222_220.out
                                    have hms54_1 := NB222_221.out
                                    have hms54_3 := NB222_227.out
                                    have hs55 : w53.cell? ⟨gb222, 1, none⟩ = some (.int .i64 x223001_1) := (blk_cell BK222.out 1).trans rfl
                                    have hfs55 := blk_frozen BK222.out 1
                                    have hns55_0 := NB220_222.out
                                    have hns55_1 := NB221_222.out
                                    have hns55_3 := NB227_222.out
                                    have hms55_0 := NB222_220.out
                                    have hms55_1 := NB222_221.out
                                    have hms55_3 := NB222_227.out
                                    have hs56 : w53.cell? ⟨gb222, 2, none⟩ = some (.int .i64 x223002_1) := (blk_cell BK222.out 2).trans rfl
                                    have hfs56 := blk_frozen BK222.out 2
                                    have hns56_0 := NB220_222.out
                                    have hns56_1 := NB221_222.out
                                    have hns56_3 := NB227_222.out
                                    have hms56_0 := NB222_220.out
                                    have hms56_1 := NB222_221.out
                                    have hms56_3 := NB222_227.out
                                    refine skip_ (w1 := ?_) (by rfl) rfl ?_ ?_
                                    rotate_left
                                    · go_simp
                                      rfl
                                    refine hK.out _ _ ?_
                                    clear hK K
                                    refine done_ (done_of HT_.out (by kernel_rfl)) ?_
                                    try go_wp2
                                    have n0_ : Aside0 (Kd.R k48 48 (((w53.setCell ⟨gb222, 0, none⟩ (.int .i64 t228)).setCell ⟨gb222, 1, none⟩ (.int .i64 t229)).setCell ⟨gb222, 2, none⟩ (.int .i64 t230)) w.heap.size (fun _ => True) u222000 x222000_1) := ⟨by (with_reducible repeat (first | apply Kd.R_alloc | apply Kd.R_drewN | apply Kd.R_drew)); exact Kd.R_mono (Kd.R_far (p := ⟨gb222, 2, none⟩) (Kd.R_far (p := ⟨gb222, 1, none⟩) (Kd.R_far (p := ⟨gb222, 0, none⟩) (Kd.R_types HO_222000.out BK222.out (by decide)) (fun _ hk => hk.2) (.int .i64 t228)) (fun _ hk => hk.2) (.int .i64 t229)) (fun _ hk => hk.2) (.int .i64 t230)) (fun _ hk => trivial)⟩
                                    have n1_ : Aside0 ((((w53.setCell ⟨gb222, 0, none⟩ (.int .i64 t228)).setCell ⟨gb222, 1, none⟩ (.int .i64 t229)).setCell ⟨gb222, 2, none⟩ (.int .i64 t230)).heap[gb220]? = some (.cells #[.slice none 0 0, .int .i64 x221001_1, .int .i64 x221002_1] 68 (0, 0))) := ⟨by (with_reducible repeat (first | refine blk_drewN ?_ _ | refine blk_drew ?_ | refine blk_alloc ?_ _)); refine blk_far ?_ NB220_222.out _; (with_reducible repeat (first | refine blk_drewN ?_ _ | refine blk_drew ?_ | refine blk_alloc ?_ _)); refine blk_far ?_ NB220_222.out _; (with_reducible repeat (first | refine blk_drewN ?_ _ | refine blk_drew ?_ | refine blk_alloc ?_ _)); refine blk_far ?_ NB220_222.out _; (with_reducible repeat (first | refine blk_drewN ?_ _ | refine blk_drew ?_ | refine blk_alloc ?_ _)); exact BK220.out⟩
                                    have n2_ : Aside0 ((((w53.setCell ⟨gb222, 0, none⟩ (.int .i64 t228)).setCell ⟨gb222, 1, none⟩ (.int .i64 t229)).setCell ⟨gb222, 2, none⟩ (.int .i64 t230)).heap[gb221]? = some (.cells #[u222000, .int .i64 x222001_1, .int .i64 x222002_1] 68 (0, 0))) := ⟨by (with_reducible repeat (first | refine blk_drewN ?_ _ | refine blk_drew ?_ | refine blk_alloc ?_ _)); refine blk_far ?_ NB221_222.out _; (with_reducible repeat (first | refine blk_drewN ?_ _ | refine blk_drew ?_ | refine blk_alloc ?_ _)); refine blk_far ?_ NB221_222.out _; (with_reducible repeat (first | refine blk_drewN ?_ _ | refine blk_drew ?_ | refine blk_alloc ?_ _)); refine blk_far ?_ NB221_222.out _; (with_reducible repeat (first | refine blk_drewN ?_ _ | refine blk_drew ?_ | refine blk_alloc ?_ _)); exact BK221.out⟩
                                    have n3_ : Aside0 ((((w53.setCell ⟨gb222, 0, none⟩ (.int .i64 t228)).setCell ⟨gb222, 1, none⟩ (.int .i64 t229)).setCell ⟨gb222, 2, none⟩ (.int .i64 t230)).heap[gb222]? = some (.cells #[.int .i64 t228, .int .i64 t229, .int .i64 t230] 26 (0, 0))) := ⟨by (with_reducible repeat (first | refine blk_drewN ?_ _ | refine blk_drew ?_ | refine blk_alloc ?_ _)); refine blk_put (cs := #[.int .i64 t228, .int .i64 t229, .int .i64 x223002_1]) ?_ 2 _ rfl; (with_reducible repeat (first | refine blk_drewN ?_ _ | refine blk_drew ?_ | refine blk_alloc ?_ _)); refine blk_put (cs := #[.int .i64 t228, .int .i64 x223001_1, .int .i64 x223002_1]) ?_ 1 _ rfl; (with_reducible repeat (first | refine blk_drewN ?_ _ | refine blk_drew ?_ | refine blk_alloc ?_ _)); refine blk_put (cs := #[.int .i64 x223000_1, .int .i64 x223001_1, .int .i64 x223002_1]) ?_ 0 _ rfl; (with_reducible repeat (first | refine blk_drewN ?_ _ | refine blk_drew ?_ | refine blk_alloc ?_ _)); exact BK222.out⟩
                                    have n4_ : Aside0 ((((w53.setCell ⟨gb222, 0, none⟩ (.int .i64 t228)).setCell ⟨gb222, 1, none⟩ (.int .i64 t229)).setCell ⟨gb222, 2, none⟩ (.int .i64 t230)).heap[gb227]? = some (.cells #[.int .i64 t225, .int .i64 t226] 90 (0, 0))) := ⟨by (with_reducible repeat (first | refine blk_drewN ?_ _ | refine blk_drew ?_ | refine blk_alloc ?_ _)); refine blk_far ?_ NB227_222.out _; (with_reducible repeat (first | refine blk_drewN ?_ _ | refine blk_drew ?_ | refine blk_alloc ?_ _)); refine blk_far ?_ NB227_222.out _; (with_reducible repeat (first | refine blk_drewN ?_ _ | refine blk_drew ?_ | refine blk_alloc ?_ _)); refine blk_far ?_ NB227_222.out _; (with_reducible repeat (first | refine blk_drewN ?_ _ | refine blk_drew ?_ | refine blk_alloc ?_ _)); exact BK227.out⟩
                                    have n5_ : Aside0 (Below w.heap.size w (((w53.setCell ⟨gb222, 0, none⟩ (.int .i64 t228)).setCell ⟨gb222, 1, none⟩ (.int .i64 t229)).setCell ⟨gb222, 2, none⟩ (.int .i64 t230))) := ⟨by repeat (first | (with_reducible first | exact HB.out | apply below_alloc | apply pw_below_drewN | apply below_drew1 | refine below_set ?_ GE220.out | refine below_set ?_ GE221.out | refine below_set ?_ GE222.out | refine below_set ?_ GE227.out) | exact HB.out)⟩
                                    (try clear HO_222000)
                                    (try clear BK220)
                                    (try clear BK221)
                                    (try clear BK222)
                                    (try clear BK227)
                                    (try clear HB)
                                    generalize (((w53.setCell ⟨gb222, 0, none⟩ (.int .i64 t228)).setCell ⟨gb222, 1, none⟩ (.int .i64 t229)).setCell ⟨gb222, 2, none⟩ (.int .i64 t230)) = w57 at n0_ n1_ n2_ n3_ n4_ n5_ ⊢
                                    have HO_222000 := n0_
                                    have BK220 := n1_
                                    have BK221 := n2_
                                    have BK222 := n3_
                                    have BK227 := n4_
                                    have HB := n5_
                                    clear n0_ n1_ n2_ n3_ n4_ n5_
                                    have n0_ := Aside0.mk (Kd.R_drew HO_222000.out)
                                    have n1_ := Aside0.mk (blk_drew BK220.out)
                                    have n2_ := Aside0.mk (blk_drew BK221.out)
                                    have n3_ := Aside0.mk (blk_drew BK222.out)
                                    have n4_ := Aside0.mk (blk_drew BK227.out)
                                    have n5_ := Aside0.mk (below_drew1 HB.out)
                                    clear HO_222000
                                    clear BK220
                                    clear BK221
                                    clear BK222
                                    clear BK227
                                    clear HB
                                    have HO_222000 := n0_
                                    have BK220 := n1_
                                    have BK221 := n2_
                                    have BK222 := n3_
                                    have BK227 := n4_
                                    have HB := n5_
                                    clear n0_ n1_ n2_ n3_ n4_ n5_
                                    refine start_ (n := 11) (S := fun w' => w'.cell? ⟨gb227, 0, none⟩ = some (.int .i64 t225) ∧ w'.cell? ⟨gb227, 1, none⟩ = some (.int .i64 t226) ∧ w'.cell? ⟨gb222, 0, none⟩ = some (.int .i64 t228) ∧ w'.cell? ⟨gb222, 1, none⟩ = some (.int .i64 t229) ∧ w'.cell? ⟨gb222, 2, none⟩ = some (.int .i64 t230)) (ds := []) #[false, false, false, false, false, false, false, false, false, false, false] (by kernel_rfl) rfl rfl ⟨(blk_cell BK227.out 0).trans rfl, (blk_cell BK227.out 1).trans rfl, (blk_cell BK222.out 0).trans rfl, (blk_cell BK222.out 1).trans rfl, (blk_cell BK222.out 2).trans rfl⟩ (fun hHeld => ?_); refine with_tabW colophonref10_Find.tab21 colophonref10_Find.bits21 (fun HT_ HW_ => ?_)
                                    generalize w57.drew = w58 at HO_222000 BK220 BK221 BK222 BK227 HB hHeld ⊢
                                    refine pure_ (i := 0) (N := some 65) (v := ?_) (a' := ?_) #[true, false, false, false, false, false, false, false, false, false, false] rfl rfl (any_of HT_.out (by kernel_rfl)) (fun _ _ _ h => h) (Or.inl ⟨by rfl, ?_⟩) ?_ ?_
                                    rotate_left
                                    · intro w'
                                      go_simp
                                      with_reducible rfl
                                    rotate_left
                                    · simp only [Act.put, List.setIfInBounds_toArray, List.set_cons_zero, List.set_cons_succ, i64_w, i32_w]
                                      rfl
                                    refine pure_ (i := 1) (N := some 66) (v := ?_) (a' := ?_) #[true, true, false, false, false, false, false, false, false, false, false] rfl rfl (any_of HT_.out (by kernel_rfl)) (fun _ _ _ h => h) (Or.inl ⟨by rfl, ?_⟩) ?_ ?_
                                    rotate_left
                                    · intro w'
                                      go_simp
                                      with_reducible rfl
                                    rotate_left
                                    · simp only [Act.put, List.setIfInBounds_toArray, List.set_cons_zero, List.set_cons_succ, i64_w, i32_w]
                                      rfl
                                    refine pure_ (i := 2) (N := some 67) (v := ?_) (a' := ?_) #[true, true, true, false, false, false, false, false, false, false, false] rfl rfl (any_of HT_.out (by kernel_rfl)) (fun _ _ _ h => h) (Or.inl ⟨by rfl, ?_⟩) ?_ ?_
                                    rotate_left
                                    · intro w'
                                      go_simp
                                      with_reducible rfl
                                    rotate_left
                                    · simp only [Act.put, List.setIfInBounds_toArray, List.set_cons_zero, List.set_cons_succ, i64_w, i32_w]
                                      rfl
                                    refine pure_ (i := 3) (N := some 68) (v := ?_) (a' := ?_) #[true, true, true, true, false, false, false, false, false, false, false] rfl rfl (any_of HT_.out (by kernel_rfl)) (fun _ _ _ h => h) (Or.inl ⟨by rfl, ?_⟩) ?_ ?_
                                    rotate_left
                                    · intro w'
                                      go_simp
                                      with_reducible rfl
                                    rotate_left
                                    · simp only [Act.put, List.setIfInBounds_toArray, List.set_cons_zero, List.set_cons_succ, i64_w, i32_w]
                                      rfl
                                    refine pure_ (i := 7) (N := some 72) (v := ?_) (a' := ?_) #[true, true, true, true, false, false, false, true, false, false, false] rfl rfl (any_of HT_.out (by kernel_rfl)) (fun _ _ _ h => h) (Or.inl ⟨by rfl, ?_⟩) ?_ ?_
                                    rotate_left
                                    · intro w'
                                      go_simp
                                      with_reducible rfl
                                    rotate_left
                                    · simp only [Act.put, List.setIfInBounds_toArray, List.set_cons_zero, List.set_cons_succ, i64_w, i32_w]
                                      rfl
                                    refine take_ (i := 4) (N := some 69) (v := ?_) (a' := ?_) #[true, true, true, true, true, false, false, true, false, false, false] rfl rfl (take_ofW HT_.out HW_.out (by kernel_rfl)) (fun _ _ _ h => h) (Or.inl ⟨by rfl, ?_⟩) hHeld ?_ ?_
                                    rotate_left
                                    · rintro w' ⟨s0, s1, s2, s3, s4⟩
                                      go_simp
                                      with_reducible rfl
                                    rotate_left
                                    · simp only [Act.put, List.setIfInBounds_toArray, List.set_cons_zero, List.set_cons_succ, i64_w, i32_w]
                                      rfl
                                    refine pure_ (i := 5) (N := some 70) (v := ?_) (a' := ?_) #[true, true, true, true, true, true, false, true, false, false, false] rfl rfl (any_of HT_.out (by kernel_rfl)) (fun _ _ _ h => h) (Or.inl ⟨by rfl, ?_⟩) ?_ ?_
                                    rotate_left
                                    · intro w'
                                      go_simp
                                      with_reducible rfl
                                    rotate_left
                                    · simp only [Act.put, List.setIfInBounds_toArray, List.set_cons_zero, List.set_cons_succ, i64_w, i32_w]
                                      rfl
                                    refine take_ (i := 6) (N := some 71) (v := ?_) (a' := ?_) #[true, true, true, true, true, true, true, true, false, false, false] rfl rfl (take_ofW HT_.out HW_.out (by kernel_rfl)) (fun _ _ _ h => h) (Or.inl ⟨by rfl, ?_⟩) hHeld ?_ ?_
                                    rotate_left
                                    · rintro w' ⟨s0, s1, s2, s3, s4⟩
                                      go_simp
                                      with_reducible rfl
                                    rotate_left
                                    · simp only [Act.put, List.setIfInBounds_toArray, List.set_cons_zero, List.set_cons_succ, i64_w, i32_w]
                                      rfl
                                    refine pure_ (i := 8) (N := some 73) (v := ?_) (a' := ?_) #[true, true, true, true, true, true, true, true, true, false, false] rfl rfl (any_of HT_.out (by kernel_rfl)) (fun _ _ _ h => h) (Or.inl ⟨by rfl, ?_⟩) ?_ ?_
                                    rotate_left
                                    · intro w'
                                      go_simp
                                      with_reducible rfl
                                    rotate_left
                                    · simp only [Act.put, List.setIfInBounds_toArray, List.set_cons_zero, List.set_cons_succ, i64_w, i32_w]
                                      rfl
                                    refine one_ (i := 9) (N := some 9) #[true, true, true, true, true, true, true, true, true, true, false] rfl rfl (one_of HT_.out (by kernel_rfl)) (by decide) (fun K hK => ?_)
                                    refine box_step ?hg (N := 9) ?hd (cs := #[.int .u8 0, .string (⟨#[]⟩ : ByteArray), .int .i64 0, .int .i64 0, .int .i64 0, .int .i64 0]) (t := 48) ?hr ?_; (case hd => rfl); (case hg => rfl); (case hr => first | (go_simp; done) | (go_simp; rfl))
                                    intro gb231 hg w59 hbox hb
                                    have n0_ := Aside0.mk (Kd.R_below (Kd.R_elderB (by (with_reducible repeat (first | apply Kd.R_alloc | apply Kd.R_drewN | apply Kd.R_drew)); exact HO_222000.out) gb231 (Nat.le_of_eq hg.symm)) hb)
                                    have n1_ := Aside0.mk (blk_below (g := gb220) (o := .cells #[.slice none 0 0, .int .i64 x221001_1, .int .i64 x221002_1] 68 (0, 0)) (by (with_reducible repeat (first | refine blk_drewN ?_ _ | refine blk_drew ?_ | refine blk_alloc ?_ _)); exact BK220.out) hb)
                                    have n2_ := Aside0.mk (blk_below (g := gb221) (o := .cells #[u222000, .int .i64 x222001_1, .int .i64 x222002_1] 68 (0, 0)) (by (with_reducible repeat (first | refine blk_drewN ?_ _ | refine blk_drew ?_ | refine blk_alloc ?_ _)); exact BK221.out) hb)
                                    have n3_ := Aside0.mk (blk_below (g := gb222) (o := .cells #[.int .i64 t228, .int .i64 t229, .int .i64 t230] 26 (0, 0)) (by (with_reducible repeat (first | refine blk_drewN ?_ _ | refine blk_drew ?_ | refine blk_alloc ?_ _)); exact BK222.out) hb)
                                    have n4_ := Aside0.mk (blk_below (g := gb227) (o := .cells #[.int .i64 t225, .int .i64 t226] 90 (0, 0)) (by (with_reducible repeat (first | refine blk_drewN ?_ _ | refine blk_drew ?_ | refine blk_alloc ?_ _)); exact BK227.out) hb)
                                    have n5_ := Aside0.mk (below_step (by repeat (first | (with_reducible first | exact HB.out | apply below_alloc | apply pw_below_drewN | apply below_drew1 | refine below_set ?_ GE220.out | refine below_set ?_ GE221.out | refine below_set ?_ GE222.out | refine below_set ?_ GE227.out) | exact HB.out)) hb)
                                    have n6_ := Aside0.mk (hbox)
                                    have n7_ := Aside0.mk ((by rw [hg]; exact (below_size (by repeat (first | (with_reducible first | exact HB.out | apply below_alloc | apply pw_below_drewN | apply below_drew1 | refine below_set ?_ GE220.out | refine below_set ?_ GE221.out | refine below_set ?_ GE222.out | refine below_set ?_ GE227.out) | exact HB.out))) : w.heap.size ≤ gb231))
                                    have n8_ := Aside0.mk ((by rw [hg]; exact (below_size (by repeat (first | (with_reducible first | exact HB.out | apply below_alloc | apply pw_below_drewN | apply below_drew1 | refine below_set ?_ GE220.out | refine below_set ?_ GE221.out | refine below_set ?_ GE222.out | refine below_set ?_ GE227.out) | exact HB.out))) : w.heap.size ≤ gb231))
                                    have n9_ := Aside0.mk ((by rw [hg]; exact Nat.ne_of_lt (blk_lt (g := gb220) (o := .cells #[.slice none 0 0, .int .i64 x221001_1, .int .i64 x221002_1] 68 (0, 0)) (by (with_reducible repeat (first | refine blk_drewN ?_ _ | refine blk_drew ?_ | refine blk_alloc ?_ _)); exact BK220.out)) : gb220 ≠ gb231))
                                    have n10_ := Aside0.mk ((by rw [hg]; exact Nat.ne_of_gt (blk_lt (g := gb220) (o := .cells #[.slice none 0 0, .int .i64 x221001_1, .int .i64 x221002_1] 68 (0, 0)) (by (with_reducible repeat (first | refine blk_drewN ?_ _ | refine blk_drew ?_ | refine blk_alloc ?_ _)); exact BK220.out)) : gb231 ≠ gb220))
                                    have n11_ := Aside0.mk ((by rw [hg]; exact Nat.ne_of_lt (blk_lt (g := gb221) (o := .cells #[u222000, .int .i64 x222001_1, .int .i64 x222002_1] 68 (0, 0)) (by (with_reducible repeat (first | refine blk_drewN ?_ _ | refine blk_drew ?_ | refine blk_alloc ?_ _)); exact BK221.out)) : gb221 ≠ gb231))
                                    have n12_ := Aside0.mk ((by rw [hg]; exact Nat.ne_of_gt (blk_lt (g := gb221) (o := .cells #[u222000, .int .i64 x222001_1, .int .i64 x222002_1] 68 (0, 0)) (by (with_reducible repeat (first | refine blk_drewN ?_ _ | refine blk_drew ?_ | refine blk_alloc ?_ _)); exact BK221.out)) : gb231 ≠ gb221))
                                    have n13_ := Aside0.mk ((by rw [hg]; exact Nat.ne_of_lt (blk_lt (g := gb222) (o := .cells #[.int .i64 t228, .int .i64 t229, .int .i64 t230] 26 (0, 0)) (by (with_reducible repeat (first | refine blk_drewN ?_ _ | refine blk_drew ?_ | refine blk_alloc ?_ _)); exact BK222.out)) : gb222 ≠ gb231))
                                    have n14_ := Aside0.mk ((by rw [hg]; exact Nat.ne_of_gt (blk_lt (g := gb222) (o := .cells #[.int .i64 t228, .int .i64 t229, .int .i64 t230] 26 (0, 0)) (by (with_reducible repeat (first | refine blk_drewN ?_ _ | refine blk_drew ?_ | refine blk_alloc ?_ _)); exact BK222.out)) : gb231 ≠ gb222))
                                    have n15_ := Aside0.mk ((by rw [hg]; exact Nat.ne_of_lt (blk_lt (g := gb227) (o := .cells #[.int .i64 t225, .int .i64 t226] 90 (0, 0)) (by (with_reducible repeat (first | refine blk_drewN ?_ _ | refine blk_drew ?_ | refine blk_alloc ?_ _)); exact BK227.out)) : gb227 ≠ gb231))
                                    have n16_ := Aside0.mk ((by rw [hg]; exact Nat.ne_of_gt (blk_lt (g := gb227) (o := .cells #[.int .i64 t225, .int .i64 t226] 90 (0, 0)) (by (with_reducible repeat (first | refine blk_drewN ?_ _ | refine blk_drew ?_ | refine blk_alloc ?_ _)); exact BK227.out)) : gb231 ≠ gb227))
                                    clear HO_222000
                                    clear BK220
                                    clear BK221
                                    clear BK222
                                    clear BK227
                                    clear HB
                                    have HO_222000 := n0_
                                    have BK220 := n1_
                                    have BK221 := n2_
                                    have BK222 := n3_
                                    have BK227 := n4_
                                    have HB := n5_
                                    have BK231 := n6_
                                    have GW231 := n7_
                                    have GE231 := n8_
                                    have NB220_231 := n9_
                                    have NB231_220 := n10_
                                    have NB221_231 := n11_
                                    have NB231_221 := n12_
                                    have NB222_231 := n13_
                                    have NB231_222 := n14_
                                    have NB227_231 := n15_
                                    have NB231_227 := n16_
                                    clear n0_ n1_ n2_ n3_ n4_ n5_ n6_ n7_ n8_ n9_ n10_ n11_ n12_ n13_ n14_ n15_ n16_
                                    clear hb hbox hg
                                    refine hK.out _ _ ⟨(blk_cell BK227.out 0).trans rfl, (blk_cell BK227.out 1).trans rfl, (blk_cell BK222.out 0).trans rfl, (blk_cell BK222.out 1).trans rfl, (blk_cell BK222.out 2).trans rfl⟩ (fun hHeld => ?_)
                                    clear hK K
                                    refine norm_ (a' := ?_) ?_ ?_
                                    rotate_left
                                    · show Act.put _ (some 9) _ = _
                                      simp only [Act.put, List.setIfInBounds_toArray, List.set_cons_zero, List.set_cons_succ, i64_w, i32_w]
                                      rfl
                                    refine one_ (i := 10) (N := none) #[true, true, true, true, true, true, true, true, true, true, true] rfl rfl (one_of HT_.out (by kernel_rfl)) (by decide) (fun K hK => ?_)
                                    have hs60 : w59.cell? ⟨gb231, 0, none⟩ = some (.int .u8 0) := (blk_cell BK231.out 0).trans rfl
                                    have hfs60 := blk_frozen BK231.out 0
                                    have hns60_0 := NB220_231.out
                                    have hns60_1 := NB221_231.out
                                    have hns60_2 := NB222_231.out
                                    have hns60_3 := NB227_231.out
                                    have hms60_0 := NB231_220.out
                                    have hms60_1 := NB231_221.out
                                    have hms60_2 := NB231_222.out
                                    have hms60_3 := NB231_227.out
                                    have hs61 : w59.cell? ⟨gb231, 1, none⟩ = some (.string (⟨#[]⟩ : ByteArray)) := (blk_cell BK231.out 1).trans rfl
                                    have hfs61 := blk_frozen BK231.out 1
                                    have hns61_0 := NB220_231.out
                                    have hns61_1 := NB221_231.out
                                    have hns61_2 := NB222_231.out
                                    have hns61_3 := NB227_231.out
                                    have hms61_0 := NB231_220.out
                                    have hms61_1 := NB231_221.out
                                    have hms61_2 := NB231_222.out
                                    have hms61_3 := NB231_227.out
                                    have hs62 : w59.cell? ⟨gb231, 2, none⟩ = some (.int .i64 0) := (blk_cell BK231.out 2).trans rfl
                                    have hfs62 := blk_frozen BK231.out 2
                                    have hns62_0 := NB220_231.out
                                    have hns62_1 := NB221_231.out
                                    have hns62_2 := NB222_231.out
                                    have hns62_3 := NB227_231.out
                                    have hms62_0 := NB231_220.out
                                    have hms62_1 := NB231_221.out
                                    have hms62_2 := NB231_222.out
                                    have hms62_3 := NB231_227.out
                                    have hs63 : w59.cell? ⟨gb231, 3, none⟩ = some (.int .i64 0) := (blk_cell BK231.out 3).trans rfl
                                    have hfs63 := blk_frozen BK231.out 3
                                    have hns63_0 := NB220_231.out
                                    have hns63_1 := NB221_231.out
                                    have hns63_2 := NB222_231.out
                                    have hns63_3 := NB227_231.out
                                    have hms63_0 := NB231_220.out
                                    have hms63_1 := NB231_221.out
                                    have hms63_2 := NB231_222.out
                                    have hms63_3 := NB231_227.out
                                    have hs64 : w59.cell? ⟨gb231, 4, none⟩ = some (.int .i64 0) := (blk_cell BK231.out 4).trans rfl
                                    have hfs64 := blk_frozen BK231.out 4
                                    have hns64_0 := NB220_231.out
                                    have hns64_1 := NB221_231.out
                                    have hns64_2 := NB222_231.out
                                    have hns64_3 := NB227_231.out
                                    have hms64_0 := NB231_220.out
                                    have hms64_1 := NB231_221.out
                                    have hms64_2 := NB231_222.out
                                    have hms64_3 := NB231_227.out
                                    have hs65 : w59.cell? ⟨gb231, 5, none⟩ = some (.int .i64 0) := (blk_cell BK231.out 5).trans rfl
                                    have hfs65 := blk_frozen BK231.out 5
                                    have hns65_0 := NB220_231.out
                                    have hns65_1 := NB221_231.out
                                    have hns65_2 := NB222_231.out
                                    have hns65_3 := NB227_231.out
                                    have hms65_0 := NB231_220.out
                                    have hms65_1 := NB231_221.out
                                    have hms65_2 := NB231_222.out
                                    have hms65_3 := NB231_227.out
                                    refine skip_ (w1 := ?_) (by rfl) rfl ?_ ?_
                                    rotate_left
                                    · go_simp
                                      rfl
                                    refine hK.out _ _ ⟨((cell_far (p := ⟨gb231, _, none⟩) NB227_231.out _).trans (((cell_far (p := ⟨gb231, _, none⟩) NB227_231.out _).trans (((cell_far (p := ⟨gb231, _, none⟩) NB227_231.out _).trans (((cell_far (p := ⟨gb231, _, none⟩) NB227_231.out _).trans (((cell_far (p := ⟨gb231, _, none⟩) NB227_231.out _).trans (((cell_far (p := ⟨gb231, _, none⟩) NB227_231.out _).trans (hHeld.1)))))))))))), ((cell_far (p := ⟨gb231, _, none⟩) NB227_231.out _).trans (((cell_far (p := ⟨gb231, _, none⟩) NB227_231.out _).trans (((cell_far (p := ⟨gb231, _, none⟩) NB227_231.out _).trans (((cell_far (p := ⟨gb231, _, none⟩) NB227_231.out _).trans (((cell_far (p := ⟨gb231, _, none⟩) NB227_231.out _).trans (((cell_far (p := ⟨gb231, _, none⟩) NB227_231.out _).trans (hHeld.2.1)))))))))))), ((cell_far (p := ⟨gb231, _, none⟩) NB222_231.out _).trans (((cell_far (p := ⟨gb231, _, none⟩) NB222_231.out _).trans (((cell_far (p := ⟨gb231, _, none⟩) NB222_231.out _).trans (((cell_far (p := ⟨gb231, _, none⟩) NB222_231.out _).trans (((cell_far (p := ⟨gb231, _, none⟩) NB222_231.out _).trans (((cell_far (p := ⟨gb231, _, none⟩) NB222_231.out _).trans (hHeld.2.2.1)))))))))))), ((cell_far (p := ⟨gb231, _, none⟩) NB222_231.out _).trans (((cell_far (p := ⟨gb231, _, none⟩) NB222_231.out _).trans (((cell_far (p := ⟨gb231, _, none⟩) NB222_231.out _).trans (((cell_far (p := ⟨gb231, _, none⟩) NB222_231.out _).trans (((cell_far (p := ⟨gb231, _, none⟩) NB222_231.out _).trans (((cell_far (p := ⟨gb231, _, none⟩) NB222_231.out _).trans (hHeld.2.2.2.1)))))))))))), ((cell_far (p := ⟨gb231, _, none⟩) NB222_231.out _).trans (((cell_far (p := ⟨gb231, _, none⟩) NB222_231.out _).trans (((cell_far (p := ⟨gb231, _, none⟩) NB222_231.out _).trans (((cell_far (p := ⟨gb231, _, none⟩) NB222_231.out _).trans (((cell_far (p := ⟨gb231, _, none⟩) NB222_231.out _).trans (((cell_far (p := ⟨gb231, _, none⟩) NB222_231.out _).trans (hHeld.2.2.2.2))))))))))))⟩ (fun hHeld => ?_)
                                    clear hK K
                                    refine done_ (done_of HT_.out (by kernel_rfl)) ?_
                                    have hnb66 := NB231_220.out
                                    have hnc66 := NB220_231.out
                                    have hnb67 := NB231_221.out
                                    have hnc67 := NB221_231.out
                                    have hnb68 := NB231_222.out
                                    have hnc68 := NB222_231.out
                                    have hnb69 := NB231_227.out
                                    have hnc69 := NB227_231.out
                                    have hcz70_0 : w59.cell? ⟨gb231, 0, none⟩ = some (.int .u8 0) := (blk_cell BK231.out 0).trans rfl
                                    have hcz70_1 : w59.cell? ⟨gb231, 1, none⟩ = some (.string (⟨#[]⟩ : ByteArray)) := (blk_cell BK231.out 1).trans rfl
                                    have hcz70_2 : w59.cell? ⟨gb231, 2, none⟩ = some (.int .i64 0) := (blk_cell BK231.out 2).trans rfl
                                    have hcz70_3 : w59.cell? ⟨gb231, 3, none⟩ = some (.int .i64 0) := (blk_cell BK231.out 3).trans rfl
                                    have hcz70_4 : w59.cell? ⟨gb231, 4, none⟩ = some (.int .i64 0) := (blk_cell BK231.out 4).trans rfl
                                    have hcz70_5 : w59.cell? ⟨gb231, 5, none⟩ = some (.int .i64 0) := (blk_cell BK231.out 5).trans rfl
                                    have hfz70_0 := blk_frozen BK231.out 0
                                    have hfz70_1 := blk_frozen BK231.out 1
                                    have hfz70_2 := blk_frozen BK231.out 2
                                    have hfz70_3 := blk_frozen BK231.out 3
                                    have hfz70_4 := blk_frozen BK231.out 4
                                    have hfz70_5 := blk_frozen BK231.out 5
                                    go_upto_region 23 with (first | ((with_reducible refine gate_callee (f := 34) rfl ?_); refine goesL_ (some 76) rfl rfl Tryz.func34 (by kernel_rfl) rfl #[.string (cutS a0 (x6_1 : Int).toNat (t225 : Int).toNat)] rfl (by (try simp only [List.map_toArray, List.map_cons, List.map_nil]); first | done | rfl | (simp only [List.length_drop, List.length_take]; rfl)) ?_; (with_reducible refine (colophonref04_IsKey.calls kj14 (cutS a0 (x6_1 : Int).toNat (t225 : Int).toNat) t232 _ A42.out).mono ?_); rintro e w71 ⟨rfl, hb⟩; refine ⟨_, rfl, ?_⟩; have n0_ := Aside0.mk (Kd.R_below (by (with_reducible repeat (first | apply Kd.R_alloc | apply Kd.R_drewN | apply Kd.R_drew)); exact (Kd.R_mono (Kd.R_far (p := ⟨gb231, 5, none⟩) (Kd.R_far (p := ⟨gb231, 4, none⟩) (Kd.R_far (p := ⟨gb231, 3, none⟩) (Kd.R_far (p := ⟨gb231, 2, none⟩) (Kd.R_far (p := ⟨gb231, 1, none⟩) (Kd.R_far (p := ⟨gb231, 0, none⟩) (Kd.R_mono HO_222000.out (fun k_ hk => (⟨hk, hk.2⟩ : _ ∧ k_ ≠ gb231))) (fun _ hk => hk.2) (.int .u8 t224)) (fun _ hk => hk.2) (.string (cutS a0 (x6_1 : Int).toNat (t225 : Int).toNat))) (fun _ hk => hk.2) (.int .i64 t228)) (fun _ hk => hk.2) (.int .i64 t229)) (fun _ hk => hk.2) (.int .i64 t230)) (fun _ hk => hk.2) (.int .i64 x5_12)) (fun _ h_ => h_.1))) hb); have n1_ := Aside0.mk (blk_below (g := gb220) (o := .cells #[.slice none 0 0, .int .i64 x221001_1, .int .i64 x221002_1] 68 (0, 0)) (by (with_reducible repeat (first | refine blk_drewN ?_ _ | refine blk_drew ?_ | refine blk_alloc ?_ _)); refine blk_far ?_ NB220_231.out _; (with_reducible repeat (first | refine blk_drewN ?_ _ | refine blk_drew ?_ | refine blk_alloc ?_ _)); refine blk_far ?_ NB220_231.out _; (with_reducible repeat (first | refine blk_drewN ?_ _ | refine blk_drew ?_ | refine blk_alloc ?_ _)); refine blk_far ?_ NB220_231.out _; (with_reducible repeat (first | refine blk_drewN ?_ _ | refine blk_drew ?_ | refine blk_alloc ?_ _)); refine blk_far ?_ NB220_231.out _; (with_reducible repeat (first | refine blk_drewN ?_ _ | refine blk_drew ?_ | refine blk_alloc ?_ _)); refine blk_far ?_ NB220_231.out _; (with_reducible repeat (first | refine blk_drewN ?_ _ | refine blk_drew ?_ | refine blk_alloc ?_ _)); refine blk_far ?_ NB220_231.out _; (with_reducible repeat (first | refine blk_drewN ?_ _ | refine blk_drew ?_ | refine blk_alloc ?_ _)); exact BK220.out) hb); have n2_ := Aside0.mk (blk_below (g := gb221) (o := .cells #[u222000, .int .i64 x222001_1, .int .i64 x222002_1] 68 (0, 0)) (by (with_reducible repeat (first | refine blk_drewN ?_ _ | refine blk_drew ?_ | refine blk_alloc ?_ _)); refine blk_far ?_ NB221_231.out _; (with_reducible repeat (first | refine blk_drewN ?_ _ | refine blk_drew ?_ | refine blk_alloc ?_ _)); refine blk_far ?_ NB221_231.out _; (with_reducible repeat (first | refine blk_drewN ?_ _ | refine blk_drew ?_ | refine blk_alloc ?_ _)); refine blk_far ?_ NB221_231.out _; (with_reducible repeat (first | refine blk_drewN ?_ _ | refine blk_drew ?_ | refine blk_alloc ?_ _)); refine blk_far ?_ NB221_231.out _; (with_reducible repeat (first | refine blk_drewN ?_ _ | refine blk_drew ?_ | refine blk_alloc ?_ _)); refine blk_far ?_ NB221_231.out _; (with_reducible repeat (first | refine blk_drewN ?_ _ | refine blk_drew ?_ | refine blk_alloc ?_ _)); refine blk_far ?_ NB221_231.out _; (with_reducible repeat (first | refine blk_drewN ?_ _ | refine blk_drew ?_ | refine blk_alloc ?_ _)); exact BK221.out) hb); have n3_ := Aside0.mk (blk_below (g := gb222) (o := .cells #[.int .i64 t228, .int .i64 t229, .int .i64 t230] 26 (0, 0)) (by (with_reducible repeat (first | refine blk_drewN ?_ _ | refine blk_drew ?_ | refine blk_alloc ?_ _)); refine blk_far ?_ NB222_231.out _; (with_reducible repeat (first | refine blk_drewN ?_ _ | refine blk_drew ?_ | refine blk_alloc ?_ _)); refine blk_far ?_ NB222_231.out _; (with_reducible repeat (first | refine blk_drewN ?_ _ | refine blk_drew ?_ | refine blk_alloc ?_ _)); refine blk_far ?_ NB222_231.out _; (with_reducible repeat (first | refine blk_drewN ?_ _ | refine blk_drew ?_ | refine blk_alloc ?_ _)); refine blk_far ?_ NB222_231.out _; (with_reducible repeat (first | refine blk_drewN ?_ _ | refine blk_drew ?_ | refine blk_alloc ?_ _)); refine blk_far ?_ NB222_231.out _; (with_reducible repeat (first | refine blk_drewN ?_ _ | refine blk_drew ?_ | refine blk_alloc ?_ _)); refine blk_far ?_ NB222_231.out _; (with_reducible repeat (first | refine blk_drewN ?_ _ | refine blk_drew ?_ | refine blk_alloc ?_ _)); exact BK222.out) hb); have n4_ := Aside0.mk (blk_below (g := gb227) (o := .cells #[.int .i64 t225, .int .i64 t226] 90 (0, 0)) (by (with_reducible repeat (first | refine blk_drewN ?_ _ | refine blk_drew ?_ | refine blk_alloc ?_ _)); refine blk_far ?_ NB227_231.out _; (with_reducible repeat (first | refine blk_drewN ?_ _ | refine blk_drew ?_ | refine blk_alloc ?_ _)); refine blk_far ?_ NB227_231.out _; (with_reducible repeat (first | refine blk_drewN ?_ _ | refine blk_drew ?_ | refine blk_alloc ?_ _)); refine blk_far ?_ NB227_231.out _; (with_reducible repeat (first | refine blk_drewN ?_ _ | refine blk_drew ?_ | refine blk_alloc ?_ _)); refine blk_far ?_ NB227_231.out _; (with_reducible repeat (first | refine blk_drewN ?_ _ | refine blk_drew ?_ | refine blk_alloc ?_ _)); refine blk_far ?_ NB227_231.out _; (with_reducible repeat (first | refine blk_drewN ?_ _ | refine blk_drew ?_ | refine blk_alloc ?_ _)); refine blk_far ?_ NB227_231.out _; (with_reducible repeat (first | refine blk_drewN ?_ _ | refine blk_drew ?_ | refine blk_alloc ?_ _)); exact BK227.out) hb); have n5_ := Aside0.mk (blk_below (g := gb231) (o := .cells #[.int .u8 t224, .string (cutS a0 (x6_1 : Int).toNat (t225 : Int).toNat), .int .i64 t228, .int .i64 t229, .int .i64 t230, .int .i64 x5_12] 48 (0, 0)) (by (with_reducible repeat (first | refine blk_drewN ?_ _ | refine blk_drew ?_ | refine blk_alloc ?_ _)); refine blk_put (cs := #[.int .u8 t224, .string (cutS a0 (x6_1 : Int).toNat (t225 : Int).toNat), .int .i64 t228, .int .i64 t229, .int .i64 t230, .int .i64 0]) ?_ 5 _ rfl; (with_reducible repeat (first | refine blk_drewN ?_ _ | refine blk_drew ?_ | refine blk_alloc ?_ _)); refine blk_put (cs := #[.int .u8 t224, .string (cutS a0 (x6_1 : Int).toNat (t225 : Int).toNat), .int .i64 t228, .int .i64 t229, .int .i64 0, .int .i64 0]) ?_ 4 _ rfl; (with_reducible repeat (first | refine blk_drewN ?_ _ | refine blk_drew ?_ | refine blk_alloc ?_ _)); refine blk_put (cs := #[.int .u8 t224, .string (cutS a0 (x6_1 : Int).toNat (t225 : Int).toNat), .int .i64 t228, .int .i64 0, .int .i64 0, .int .i64 0]) ?_ 3 _ rfl; (with_reducible repeat (first | refine blk_drewN ?_ _ | refine blk_drew ?_ | refine blk_alloc ?_ _)); refine blk_put (cs := #[.int .u8 t224, .string (cutS a0 (x6_1 : Int).toNat (t225 : Int).toNat), .int .i64 0, .int .i64 0, .int .i64 0, .int .i64 0]) ?_ 2 _ rfl; (with_reducible repeat (first | refine blk_drewN ?_ _ | refine blk_drew ?_ | refine blk_alloc ?_ _)); refine blk_put (cs := #[.int .u8 t224, .string (⟨#[]⟩ : ByteArray), .int .i64 0, .int .i64 0, .int .i64 0, .int .i64 0]) ?_ 1 _ rfl; (with_reducible repeat (first | refine blk_drewN ?_ _ | refine blk_drew ?_ | refine blk_alloc ?_ _)); refine blk_put (cs := #[.int .u8 0, .string (⟨#[]⟩ : ByteArray), .int .i64 0, .int .i64 0, .int .i64 0, .int .i64 0]) ?_ 0 _ rfl; (with_reducible repeat (first | refine blk_drewN ?_ _ | refine blk_drew ?_ | refine blk_alloc ?_ _)); exact BK231.out) hb); have n6_ := Aside0.mk (below_step (by repeat (first | (with_reducible first | exact HB.out | apply below_alloc | apply pw_below_drewN | apply below_drew1 | refine below_set ?_ GE220.out | refine below_set ?_ GE221.out | refine below_set ?_ GE222.out | refine below_set ?_ GE227.out | refine below_set ?_ GE231.out) | exact HB.out)) hb); clear HO_222000; clear BK220; clear BK221; clear BK222; clear BK227; clear BK231; clear HB; have HO_222000 := n0_; have BK220 := n1_; have BK221 := n2_; have BK222 := n3_; have BK227 := n4_; have BK231 := n5_; have HB := n6_; clear n0_ n1_ n2_ n3_ n4_ n5_ n6_; (try clear hb); (try clear hb2); (try clear hk); (try clear hi)))
                                    (try simp only [Act.put, List.setIfInBounds_toArray, List.set_cons_zero, List.set_cons_succ])
                                    go_cut [81] (fun v81 wc => ∃ (kq : Nat) (x81_42 : Bool), v81 = .bool x81_42 ∧ Aside0 (colophonref10_Find.j3 kq a0 t224 x81_42 x222000_1 x222001_1 x222002_1 t228 t229 t230 t225 t226 t224 (cutS a0 (x6_1 : Int).toNat (t225 : Int).toNat) t228 t229 t230 x5_12 = some (r1, r2, r3)) ∧ Aside0 (kq ≤ kj14) ∧ Aside0 (Kd.R k48 48 wc w.heap.size (fun k_ => k_ ≠ gb231) u222000 x222000_1) ∧ Aside0 (wc.heap[gb220]? = some (.cells #[(.slice none 0 0), .int .i64 x221001_1, .int .i64 x221002_1] 68 (0, 0))) ∧ Aside0 (wc.heap[gb221]? = some (.cells #[u222000, .int .i64 x222001_1, .int .i64 x222002_1] 68 (0, 0))) ∧ Aside0 (wc.heap[gb222]? = some (.cells #[.int .i64 t228, .int .i64 t229, .int .i64 t230] 26 (0, 0))) ∧ Aside0 (wc.heap[gb227]? = some (.cells #[.int .i64 t225, .int .i64 t226] 90 (0, 0))) ∧ Aside0 (wc.heap[gb231]? = some (.cells #[.int .u8 t224, .string (cutS a0 (x6_1 : Int).toNat (t225 : Int).toNat), .int .i64 t228, .int .i64 t229, .int .i64 t230, .int .i64 x5_12] 48 (0, 0))) ∧ Aside0 (Below w.heap.size w wc))
                                    case first =>
                                      have H := HC43.out
                                      clear HC43
                                      by_cases c72 : t224 = 1
                                      · rw [if_pos c72] at H
                                        have c72b0 : (t224 == 1) = true := beq_iff_eq.mpr c72
                                        have c72b1 : (t224 != 1) = false := bne_eq_false_iff_eq.mpr c72
                                        clear c72
                                        (first | rw [c72b0] | (simp only [i64_w, i32_w]; rw [c72b0]) | skip)
                                        have H' := Aside0.mk H
                                        clear H
                                        go_wp2
                                        go_meet
                                        case rel => exact ⟨_, (t232), (by first | rfl | (simp; done) | (simp [*]; done)), H', ⟨by have := HK1.out; have := HJ12.out; have := HJ14.out; first | omega | exact Nat.le_refl _⟩, ⟨by (with_reducible repeat (first | apply Kd.R_alloc | apply Kd.R_drewN | apply Kd.R_drew)); exact Kd.R_mono HO_222000.out (fun _ hk => hk.2)⟩, ⟨by (with_reducible repeat (first | refine blk_drewN ?_ _ | refine blk_drew ?_ | refine blk_alloc ?_ _)); exact BK220.out⟩, ⟨by (with_reducible repeat (first | refine blk_drewN ?_ _ | refine blk_drew ?_ | refine blk_alloc ?_ _)); exact BK221.out⟩, ⟨by (with_reducible repeat (first | refine blk_drewN ?_ _ | refine blk_drew ?_ | refine blk_alloc ?_ _)); exact BK222.out⟩, ⟨by (with_reducible repeat (first | refine blk_drewN ?_ _ | refine blk_drew ?_ | refine blk_alloc ?_ _)); exact BK227.out⟩, ⟨by (with_reducible repeat (first | refine blk_drewN ?_ _ | refine blk_drew ?_ | refine blk_alloc ?_ _)); exact BK231.out⟩, ⟨by repeat (first | (with_reducible first | exact HB.out | apply below_alloc | apply pw_below_drewN | apply below_drew1 | refine below_set ?_ GE220.out | refine below_set ?_ GE221.out | refine below_set ?_ GE222.out | refine below_set ?_ GE227.out | refine below_set ?_ GE231.out) | exact HB.out)⟩⟩
                                      · rw [if_neg c72] at H
                                        have c72b0 : (t224 == 1) = false := beq_eq_false_iff_ne.mpr c72
                                        have c72b1 : (t224 != 1) = true := bne_iff_ne.mpr c72
                                        (first | rw [c72b0] | (simp only [i64_w, i32_w]; rw [c72b0]) | skip)
                                        have H' := Aside0.mk H
                                        clear H
                                        go_wp2
                                        go_meet
                                        case rel => exact ⟨_, (false), (by first | rfl | (simp; done) | (simp [*]; done)), H', ⟨by have := HK1.out; have := HJ12.out; have := HJ14.out; first | omega | exact Nat.le_refl _⟩, ⟨by (with_reducible repeat (first | apply Kd.R_alloc | apply Kd.R_drewN | apply Kd.R_drew)); exact Kd.R_mono HO_222000.out (fun _ hk => hk.2)⟩, ⟨by (with_reducible repeat (first | refine blk_drewN ?_ _ | refine blk_drew ?_ | refine blk_alloc ?_ _)); exact BK220.out⟩, ⟨by (with_reducible repeat (first | refine blk_drewN ?_ _ | refine blk_drew ?_ | refine blk_alloc ?_ _)); exact BK221.out⟩, ⟨by (with_reducible repeat (first | refine blk_drewN ?_ _ | refine blk_drew ?_ | refine blk_alloc ?_ _)); exact BK222.out⟩, ⟨by (with_reducible repeat (first | refine blk_drewN ?_ _ | refine blk_drew ?_ | refine blk_alloc ?_ _)); exact BK227.out⟩, ⟨by (with_reducible repeat (first | refine blk_drewN ?_ _ | refine blk_drew ?_ | refine blk_alloc ?_ _)); exact BK231.out⟩, ⟨by repeat (first | (with_reducible first | exact HB.out | apply below_alloc | apply pw_below_drewN | apply below_drew1 | refine below_set ?_ GE220.out | refine below_set ?_ GE221.out | refine below_set ?_ GE222.out | refine below_set ?_ GE227.out | refine below_set ?_ GE231.out) | exact HB.out)⟩⟩
                                    case rest =>
                                      clear HC43
                                      try clear c1
                                      try clear p1
                                      try clear q1
                                      try clear hx1
                                      try clear c2
                                      try clear p2
                                      try clear q2
                                      try clear hx2
                                      try clear c3
                                      try clear c4
                                      try clear c6
                                      try clear p6
                                      try clear c7
                                      try clear c8
                                      try clear c10
                                      try clear c10b0
                                      try clear c11
                                      try clear c11b0
                                      try clear p12
                                      try clear q12
                                      try clear hx12
                                      try clear c14
                                      try clear c14b0
                                      try clear c14b1
                                      try clear c16
                                      try clear c16b0
                                      try clear c17
                                      try clear c17b0
                                      try clear p18
                                      try clear q18
                                      try clear hx18
                                      try clear c19
                                      try clear c19b0
                                      try clear c19b1
                                      try clear c20
                                      try clear p20
                                      try clear q20
                                      try clear hx20
                                      try clear c21
                                      try clear c23
                                      try clear c25
                                      try clear c25b0
                                      try clear c25b1
                                      try clear c27
                                      try clear c28
                                      try clear c31
                                      try clear c32
                                      try clear c33
                                      try clear c34
                                      try clear c34b0
                                      try clear c34b1
                                      try clear c35
                                      try clear c35b0
                                      try clear c35b1
                                      try clear c36
                                      try clear c36b0
                                      try clear c36b1
                                      try clear c37
                                      try clear c37b0
                                      try clear c37b1
                                      try clear c39
                                      try clear c39b0
                                      try clear c39b1
                                      try clear c40
                                      try clear c40b0
                                      try clear c40b1
                                      try clear c41
                                      try clear c41b0
                                      try clear c41b1
                                      try clear c47
                                      try clear c48
                                      try clear c49
                                      try clear p64
                                      try clear c66
                                      try clear c67
                                      try clear c68
                                      try clear c69
                                      try clear c72
                                      try clear c72b0
                                      try clear c72b1
                                      try clear hcz29_0
                                      try clear hcz29_1
                                      try clear hcz29_2
                                      try clear hcz32_0
                                      try clear hcz32_1
                                      try clear hcz32_2
                                      try clear hcz50_0
                                      try clear hcz50_1
                                      try clear hcz5_0
                                      try clear hcz5_1
                                      try clear hcz5_2
                                      try clear hcz70_0
                                      try clear hcz70_1
                                      try clear hcz70_2
                                      try clear hcz70_3
                                      try clear hcz70_4
                                      try clear hcz70_5
                                      try clear hcz9_0
                                      try clear hcz9_1
                                      try clear hcz9_2
                                      try clear hfz29_0
                                      try clear hfz29_1
                                      try clear hfz29_2
                                      try clear hfz32_0
                                      try clear hfz32_1
                                      try clear hfz32_2
                                      try clear hfz50_0
                                      try clear hfz50_1
                                      try clear hfz5_0
                                      try clear hfz5_1
                                      try clear hfz5_2
                                      try clear hfz70_0
                                      try clear hfz70_1
                                      try clear hfz70_2
                                      try clear hfz70_3
                                      try clear hfz70_4
                                      try clear hfz70_5
                                      try clear hfz9_0
                                      try clear hfz9_1
                                      try clear hfz9_2
                                      try clear p1
                                      try clear p12
                                      try clear p18
                                      try clear p2
                                      try clear p20
                                      try clear p6
                                      try clear q1
                                      try clear q12
                                      try clear q18
                                      try clear q2
                                      try clear q20
                                      obtain ⟨kq, x81_42, rfl, HA, HJ42, HO_222000, BK220, BK221, BK222, BK227, BK231, HB⟩ := hcut
                                      cases kq with
                                      | zero => exact absurd HA.out (by simp [colophonref10_Find.j3])
                                      | succ kj42 =>
                                        have H := HA.out
                                        clear HA
                                        simp only [colophonref10_Find.j3] at H
                                        have HC73 := Aside0.mk H
                                        clear H
                                        go_upto_if 81 with (fail)
                                        go_cut [] (fun wc => ∃ (kq : Nat) (x232000_72 : Int), Aside0 (colophonref10_Find.j4 kq a0 t224 x222000_1 x222001_1 x222002_1 t228 t229 t230 t225 t226 x232000_72 (cutS a0 (x6_1 : Int).toNat (t225 : Int).toNat) t228 t229 t230 x5_12 = some (r1, r2, r3)) ∧ Aside0 (kq ≤ kj42) ∧ Aside0 (Kd.R k48 48 wc w.heap.size (fun k_ => k_ ≠ gb231) u222000 x222000_1) ∧ Aside0 (wc.heap[gb220]? = some (.cells #[(.slice none 0 0), .int .i64 x221001_1, .int .i64 x221002_1] 68 (0, 0))) ∧ Aside0 (wc.heap[gb221]? = some (.cells #[u222000, .int .i64 x222001_1, .int .i64 x222002_1] 68 (0, 0))) ∧ Aside0 (wc.heap[gb222]? = some (.cells #[.int .i64 t228, .int .i64 t229, .int .i64 t230] 26 (0, 0))) ∧ Aside0 (wc.heap[gb227]? = some (.cells #[.int .i64 t225, .int .i64 t226] 90 (0, 0))) ∧ Aside0 (wc.heap[gb231]? = some (.cells #[.int .u8 x232000_72, .string (cutS a0 (x6_1 : Int).toNat (t225 : Int).toNat), .int .i64 t228, .int .i64 t229, .int .i64 t230, .int .i64 x5_12] 48 (0, 0))) ∧ Aside0 (Below w.heap.size w wc))
                                        case first =>
                                          have H := HC73.out
                                          clear HC73
                                          by_cases c74 : x81_42 = true
                                          · subst c74
                                            have H1 : (colophonref10_Find.j4 kj42 a0 t224 x222000_1 x222001_1 x222002_1 t228 t229 t230 t225 t226 2 (cutS a0 (x6_1 : Int).toNat (t225 : Int).toNat) t228 t229 t230 x5_12) = some (r1, r2, r3) := by rw [if_pos rfl] at H; exact H
                                            clear H
                                            have H := H1
                                            clear H1
                                            have H' := Aside0.mk H
                                            clear H
                                            have hnb75 := NB231_220.out
                                            have hnc75 := NB220_231.out
                                            have hnb76 := NB231_221.out
                                            have hnc76 := NB221_231.out
                                            have hnb77 := NB231_222.out
                                            have hnc77 := NB222_231.out
                                            have hnb78 := NB231_227.out
                                            have hnc78 := NB227_231.out
                                            have hcz79_0 : wc.cell? ⟨gb231, 0, none⟩ = some (.int .u8 t224) := (blk_cell BK231.out 0).trans rfl
                                            have hcz79_1 : wc.cell? ⟨gb231, 1, none⟩ = some (.string (cutS a0 (x6_1 : Int).toNat (t225 : Int).toNat)) := (blk_cell BK231.out 1).trans rfl
                                            have hcz79_2 : wc.cell? ⟨gb231, 2, none⟩ = some (.int .i64 t228) := (blk_cell BK231.out 2).trans rfl
                                            have hcz79_3 : wc.cell? ⟨gb231, 3, none⟩ = some (.int .i64 t229) := (blk_cell BK231.out 3).trans rfl
                                            have hcz79_4 : wc.cell? ⟨gb231, 4, none⟩ = some (.int .i64 t230) := (blk_cell BK231.out 4).trans rfl
                                            have hcz79_5 : wc.cell? ⟨gb231, 5, none⟩ = some (.int .i64 x5_12) := (blk_cell BK231.out 5).trans rfl
                                            have hfz79_0 := blk_frozen BK231.out 0
                                            have hfz79_1 := blk_frozen BK231.out 1
                                            have hfz79_2 := blk_frozen BK231.out 2
                                            have hfz79_3 := blk_frozen BK231.out 3
                                            have hfz79_4 := blk_frozen BK231.out 4
                                            have hfz79_5 := blk_frozen BK231.out 5
                                            go_wp2
                                            go_meet
                                            case rel => exact ⟨_, (2), H', ⟨by have := HK1.out; have := HJ12.out; have := HJ14.out; have := HJ42.out; first | omega | exact Nat.le_refl _⟩, ⟨by (with_reducible repeat (first | apply Kd.R_alloc | apply Kd.R_drewN | apply Kd.R_drew)); exact Kd.R_mono (Kd.R_far (p := ⟨gb231, 0, none⟩) (Kd.R_mono HO_222000.out (fun k_ hk => (⟨hk, hk⟩ : _ ∧ k_ ≠ gb231))) (fun _ hk => hk.2) (.int .u8 2)) (fun _ hk => hk.1)⟩, ⟨by (with_reducible repeat (first | refine blk_drewN ?_ _ | refine blk_drew ?_ | refine blk_alloc ?_ _)); refine blk_far ?_ NB220_231.out _; (with_reducible repeat (first | refine blk_drewN ?_ _ | refine blk_drew ?_ | refine blk_alloc ?_ _)); exact BK220.out⟩, ⟨by (with_reducible repeat (first | refine blk_drewN ?_ _ | refine blk_drew ?_ | refine blk_alloc ?_ _)); refine blk_far ?_ NB221_231.out _; (with_reducible repeat (first | refine blk_drewN ?_ _ | refine blk_drew ?_ | refine blk_alloc ?_ _)); exact BK221.out⟩, ⟨by (with_reducible repeat (first | refine blk_drewN ?_ _ | refine blk_drew ?_ | refine blk_alloc ?_ _)); refine blk_far ?_ NB222_231.out _; (with_reducible repeat (first | refine blk_drewN ?_ _ | refine blk_drew ?_ | refine blk_alloc ?_ _)); exact BK222.out⟩, ⟨by (with_reducible repeat (first | refine blk_drewN ?_ _ | refine blk_drew ?_ | refine blk_alloc ?_ _)); refine blk_far ?_ NB227_231.out _; (with_reducible repeat (first | refine blk_drewN ?_ _ | refine blk_drew ?_ | refine blk_alloc ?_ _)); exact BK227.out⟩, ⟨by (with_reducible repeat (first | refine blk_drewN ?_ _ | refine blk_drew ?_ | refine blk_alloc ?_ _)); refine blk_put (cs := #[.int .u8 t224, .string (cutS a0 (x6_1 : Int).toNat (t225 : Int).toNat), .int .i64 t228, .int .i64 t229, .int .i64 t230, .int .i64 x5_12]) ?_ 0 _ rfl; (with_reducible repeat (first | refine blk_drewN ?_ _ | refine blk_drew ?_ | refine blk_alloc ?_ _)); exact BK231.out⟩, ⟨by repeat (first | (with_reducible first | exact HB.out | apply below_alloc | apply pw_below_drewN | apply below_drew1 | refine below_set ?_ GE220.out | refine below_set ?_ GE221.out | refine below_set ?_ GE222.out | refine below_set ?_ GE227.out | refine below_set ?_ GE231.out) | exact HB.out)⟩⟩
                                          · replace c74 := Bool.eq_false_iff.mpr c74
                                            subst c74
                                            have H1 : (colophonref10_Find.j4 kj42 a0 t224 x222000_1 x222001_1 x222002_1 t228 t229 t230 t225 t226 t224 (cutS a0 (x6_1 : Int).toNat (t225 : Int).toNat) t228 t229 t230 x5_12) = some (r1, r2, r3) := by rw [if_neg (show ¬ (false = true) by decide)] at H; exact H
                                            clear H
                                            have H := H1
                                            clear H1
                                            have H' := Aside0.mk H
                                            clear H
                                            go_wp2
                                            go_meet
                                            case rel => exact ⟨_, (t224), H', ⟨by have := HK1.out; have := HJ12.out; have := HJ14.out; have := HJ42.out; first | omega | exact Nat.le_refl _⟩, ⟨by (with_reducible repeat (first | apply Kd.R_alloc | apply Kd.R_drewN | apply Kd.R_drew)); exact HO_222000.out⟩, ⟨by (with_reducible repeat (first | refine blk_drewN ?_ _ | refine blk_drew ?_ | refine blk_alloc ?_ _)); exact BK220.out⟩, ⟨by (with_reducible repeat (first | refine blk_drewN ?_ _ | refine blk_drew ?_ | refine blk_alloc ?_ _)); exact BK221.out⟩, ⟨by (with_reducible repeat (first | refine blk_drewN ?_ _ | refine blk_drew ?_ | refine blk_alloc ?_ _)); exact BK222.out⟩, ⟨by (with_reducible repeat (first | refine blk_drewN ?_ _ | refine blk_drew ?_ | refine blk_alloc ?_ _)); exact BK227.out⟩, ⟨by (with_reducible repeat (first | refine blk_drewN ?_ _ | refine blk_drew ?_ | refine blk_alloc ?_ _)); exact BK231.out⟩, ⟨by repeat (first | (with_reducible first | exact HB.out | apply below_alloc | apply pw_below_drewN | apply below_drew1 | refine below_set ?_ GE220.out | refine below_set ?_ GE221.out | refine below_set ?_ GE222.out | refine below_set ?_ GE227.out | refine below_set ?_ GE231.out) | exact HB.out)⟩⟩
                                        case rest =>
                                          clear HC73
                                          try clear c1
                                          try clear p1
                                          try clear q1
                                          try clear hx1
                                          try clear c2
                                          try clear p2
                                          try clear q2
                                          try clear hx2
                                          try clear c3
                                          try clear c4
                                          try clear c6
                                          try clear p6
                                          try clear c7
                                          try clear c8
                                          try clear c10
                                          try clear c10b0
                                          try clear c11
                                          try clear c11b0
                                          try clear p12
                                          try clear q12
                                          try clear hx12
                                          try clear c14
                                          try clear c14b0
                                          try clear c14b1
                                          try clear c16
                                          try clear c16b0
                                          try clear c17
                                          try clear c17b0
                                          try clear p18
                                          try clear q18
                                          try clear hx18
                                          try clear c19
                                          try clear c19b0
                                          try clear c19b1
                                          try clear c20
                                          try clear p20
                                          try clear q20
                                          try clear hx20
                                          try clear c21
                                          try clear c23
                                          try clear c25
                                          try clear c25b0
                                          try clear c25b1
                                          try clear c27
                                          try clear c28
                                          try clear c31
                                          try clear c32
                                          try clear c33
                                          try clear c34
                                          try clear c34b0
                                          try clear c34b1
                                          try clear c35
                                          try clear c35b0
                                          try clear c35b1
                                          try clear c36
                                          try clear c36b0
                                          try clear c36b1
                                          try clear c37
                                          try clear c37b0
                                          try clear c37b1
                                          try clear c39
                                          try clear c39b0
                                          try clear c39b1
                                          try clear c40
                                          try clear c40b0
                                          try clear c40b1
                                          try clear c41
                                          try clear c41b0
                                          try clear c41b1
                                          try clear c47
                                          try clear c48
                                          try clear c49
                                          try clear p64
                                          try clear c66
                                          try clear c67
                                          try clear c68
                                          try clear c69
                                          try clear c72
                                          try clear c72b0
                                          try clear c72b1
                                          try clear c74
                                          try clear c75
                                          try clear c76
                                          try clear c77
                                          try clear c78
                                          try clear hcz29_0
                                          try clear hcz29_1
                                          try clear hcz29_2
                                          try clear hcz32_0
                                          try clear hcz32_1
                                          try clear hcz32_2
                                          try clear hcz50_0
                                          try clear hcz50_1
                                          try clear hcz5_0
                                          try clear hcz5_1
                                          try clear hcz5_2
                                          try clear hcz70_0
                                          try clear hcz70_1
                                          try clear hcz70_2
                                          try clear hcz70_3
                                          try clear hcz70_4
                                          try clear hcz70_5
                                          try clear hcz79_0
                                          try clear hcz79_1
                                          try clear hcz79_2
                                          try clear hcz79_3
                                          try clear hcz79_4
                                          try clear hcz79_5
                                          try clear hcz9_0
                                          try clear hcz9_1
                                          try clear hcz9_2
                                          try clear hfz29_0
                                          try clear hfz29_1
                                          try clear hfz29_2
                                          try clear hfz32_0
                                          try clear hfz32_1
                                          try clear hfz32_2
                                          try clear hfz50_0
                                          try clear hfz50_1
                                          try clear hfz5_0
                                          try clear hfz5_1
                                          try clear hfz5_2
                                          try clear hfz70_0
                                          try clear hfz70_1
                                          try clear hfz70_2
                                          try clear hfz70_3
                                          try clear hfz70_4
                                          try clear hfz70_5
                                          try clear hfz79_0
                                          try clear hfz79_1
                                          try clear hfz79_2
                                          try clear hfz79_3
                                          try clear hfz79_4
                                          try clear hfz79_5
                                          try clear hfz9_0
                                          try clear hfz9_1
                                          try clear hfz9_2
                                          try clear p1
                                          try clear p12
                                          try clear p18
                                          try clear p2
                                          try clear p20
                                          try clear p6
                                          try clear p64
                                          try clear q1
                                          try clear q12
                                          try clear q18
                                          try clear q2
                                          try clear q20
                                          obtain ⟨kq, x232000_72, HA, HJ72, HO_222000, BK220, BK221, BK222, BK227, BK231, HB⟩ := hcut
                                          cases kq with
                                          | zero => exact absurd HA.out (by simp [colophonref10_Find.j4])
                                          | succ kj72 =>
                                            have H := HA.out
                                            clear HA
                                            simp only [colophonref10_Find.j4] at H
                                            have H' := Aside0.mk H
                                            clear H
                                            go_wp2
                                            go_loopg [] kj72 (fun kq w' => ∃ (x232001_6 : ByteArray), Aside0 (colophonref10_Find.l1 kq a0 t224 x222000_1 x222001_1 x222002_1 t228 t229 t230 t225 t226 x232000_72 x232001_6 t228 t229 t230 x5_12 = some (r1, r2, r3)) ∧ Aside0 (kq ≤ kj72) ∧ Aside0 (Kd.R k48 48 w' w.heap.size (fun k_ => k_ ≠ gb231) u222000 x222000_1) ∧ Aside0 (w'.heap[gb220]? = some (.cells #[(.slice none 0 0), .int .i64 x221001_1, .int .i64 x221002_1] 68 (0, 0))) ∧ Aside0 (w'.heap[gb221]? = some (.cells #[u222000, .int .i64 x222001_1, .int .i64 x222002_1] 68 (0, 0))) ∧ Aside0 (w'.heap[gb222]? = some (.cells #[.int .i64 t228, .int .i64 t229, .int .i64 t230] 26 (0, 0))) ∧ Aside0 (w'.heap[gb227]? = some (.cells #[.int .i64 t225, .int .i64 t226] 90 (0, 0))) ∧ Aside0 (w'.heap[gb231]? = some (.cells #[.int .u8 x232000_72, .string x232001_6, .int .i64 t228, .int .i64 t229, .int .i64 t230, .int .i64 x5_12] 48 (0, 0))) ∧ Aside0 (Below w.heap.size w w'))
                                            case atStart => exact ⟨((cutS a0 (x6_1 : Int).toNat (t225 : Int).toNat)), H', ⟨Nat.le_refl _⟩, ⟨by (with_reducible repeat (first | apply Kd.R_alloc | apply Kd.R_drewN | apply Kd.R_drew)); exact HO_222000.out⟩, ⟨by (with_reducible repeat (first | refine blk_drewN ?_ _ | refine blk_drew ?_ | refine blk_alloc ?_ _)); exact BK220.out⟩, ⟨by (with_reducible repeat (first | refine blk_drewN ?_ _ | refine blk_drew ?_ | refine blk_alloc ?_ _)); exact BK221.out⟩, ⟨by (with_reducible repeat (first | refine blk_drewN ?_ _ | refine blk_drew ?_ | refine blk_alloc ?_ _)); exact BK222.out⟩, ⟨by (with_reducible repeat (first | refine blk_drewN ?_ _ | refine blk_drew ?_ | refine blk_alloc ?_ _)); exact BK227.out⟩, ⟨by (with_reducible repeat (first | refine blk_drewN ?_ _ | refine blk_drew ?_ | refine blk_alloc ?_ _)); exact BK231.out⟩, ⟨by repeat (first | (with_reducible first | exact HB.out | apply below_alloc | apply pw_below_drewN | apply below_drew1 | refine below_set ?_ GE220.out | refine below_set ?_ GE221.out | refine below_set ?_ GE222.out | refine below_set ?_ GE227.out | refine below_set ?_ GE231.out) | exact HB.out)⟩⟩
                                            case round =>
                                              clear H'
                                              try clear c1
                                              try clear p1
                                              try clear q1
                                              try clear hx1
                                              try clear c2
                                              try clear p2
                                              try clear q2
                                              try clear hx2
                                              try clear c3
                                              try clear c4
                                              try clear c6
                                              try clear p6
                                              try clear c7
                                              try clear c8
                                              try clear c10
                                              try clear c10b0
                                              try clear c11
                                              try clear c11b0
                                              try clear p12
                                              try clear q12
                                              try clear hx12
                                              try clear c14
                                              try clear c14b0
                                              try clear c14b1
                                              try clear c16
                                              try clear c16b0
                                              try clear c17
                                              try clear c17b0
                                              try clear p18
                                              try clear q18
                                              try clear hx18
                                              try clear c19
                                              try clear c19b0
                                              try clear c19b1
                                              try clear c20
                                              try clear p20
                                              try clear q20
                                              try clear hx20
                                              try clear c21
                                              try clear c23
                                              try clear c25
                                              try clear c25b0
                                              try clear c25b1
                                              try clear c27
                                              try clear c28
                                              try clear c31
                                              try clear c32
                                              try clear c33
                                              try clear c34
                                              try clear c34b0
                                              try clear c34b1
                                              try clear c35
                                              try clear c35b0
                                              try clear c35b1
                                              try clear c36
                                              try clear c36b0
                                              try clear c36b1
                                              try clear c37
                                              try clear c37b0
                                              try clear c37b1
                                              try clear c39
                                              try clear c39b0
                                              try clear c39b1
                                              try clear c40
                                              try clear c40b0
                                              try clear c40b1
                                              try clear c41
                                              try clear c41b0
                                              try clear c41b1
                                              try clear c47
                                              try clear c48
                                              try clear c49
                                              try clear p64
                                              try clear c66
                                              try clear c67
                                              try clear c68
                                              try clear c69
                                              try clear c72
                                              try clear c72b0
                                              try clear c72b1
                                              try clear c74
                                              try clear c75
                                              try clear c76
                                              try clear c77
                                              try clear c78
                                              try clear hcz29_0
                                              try clear hcz29_1
                                              try clear hcz29_2
                                              try clear hcz32_0
                                              try clear hcz32_1
                                              try clear hcz32_2
                                              try clear hcz50_0
                                              try clear hcz50_1
                                              try clear hcz5_0
                                              try clear hcz5_1
                                              try clear hcz5_2
                                              try clear hcz70_0
                                              try clear hcz70_1
                                              try clear hcz70_2
                                              try clear hcz70_3
                                              try clear hcz70_4
                                              try clear hcz70_5
                                              try clear hcz79_0
                                              try clear hcz79_1
                                              try clear hcz79_2
                                              try clear hcz79_3
                                              try clear hcz79_4
                                              try clear hcz79_5
                                              try clear hcz9_0
                                              try clear hcz9_1
                                              try clear hcz9_2
                                              try clear hfz29_0
                                              try clear hfz29_1
                                              try clear hfz29_2
                                              try clear hfz32_0
                                              try clear hfz32_1
                                              try clear hfz32_2
                                              try clear hfz50_0
                                              try clear hfz50_1
                                              try clear hfz5_0
                                              try clear hfz5_1
                                              try clear hfz5_2
                                              try clear hfz70_0
                                              try clear hfz70_1
                                              try clear hfz70_2
                                              try clear hfz70_3
                                              try clear hfz70_4
                                              try clear hfz70_5
                                              try clear hfz79_0
                                              try clear hfz79_1
                                              try clear hfz79_2
                                              try clear hfz79_3
                                              try clear hfz79_4
                                              try clear hfz79_5
                                              try clear hfz9_0
                                              try clear hfz9_1
                                              try clear hfz9_2
                                              try clear p1
                                              try clear p12
                                              try clear p18
                                              try clear p2
                                              try clear p20
                                              try clear p6
                                              try clear p64
                                              try clear q1
                                              try clear q12
                                              try clear q18
                                              try clear q2
                                              try clear q20
                                              obtain ⟨x232001_6, HA, HK6, HO_222000, BK220, BK221, BK222, BK227, BK231, HB⟩ := hrel
                                              cases gk with
                                              | zero => exact absurd HA.out (by simp [colophonref10_Find.l1])
                                              | succ k6 =>
                                                have H := HA.out
                                                clear HA
                                                simp only [colophonref10_Find.l1] at H
                                                by_cases c80 : t224 = 7
                                                · rw [if_pos c80] at H
                                                  have c80b0 : (t224 == 7) = true := beq_iff_eq.mpr c80
                                                  have c80b1 : (t224 != 7) = false := bne_eq_false_iff_eq.mpr c80
                                                  clear c80
                                                  obtain ⟨ji81, hji81⟩ : ∃ j_ : Int, (wrap64 ((x232001_6.size : Int) - 1)) = j_ := ⟨_, rfl⟩
                                                  replace H : (if 0 ≤ (ji81) then (if (ji81) < (x232001_6.size : Int) then ((colophonref10_blank.f (bt x232001_6 (ji81))).bind fun t233 => (if t233 = true then (if (ji81) ≤ (x232001_6.size : Int) then (colophonref10_Find.l1 k6 a0 t224 x222000_1 x222001_1 x222002_1 t228 t229 t230 t225 t226 x232000_72 (cutS x232001_6 0 ((ji81) : Int).toNat) t228 t229 t230 x5_12) else (none)) else (if x222000_1.length < 2513169434916 then (colophonref10_Find.l0 k6 a0 0 t225 (x222000_1 ++ [(⟨x232000_72, x232001_6, (⟨t228, t229, t230⟩ : S26), x5_12⟩ : S48)]) x222001_1 x222002_1 t228 t229 t230) else (none)))) else (none)) else (none)) = some (r1, r2, r3) := by first | (rw [hji81] at H; exact H) | (simp only [hji81] at H ⊢; exact H)
                                                  have hji81w : (IntKind.i64.wrap ((x232001_6.size : Int) - 1)) = ji81 := (i64_w _).trans hji81
                                                  by_cases c82 : 0 ≤ (ji81)
                                                  · rw [if_pos c82] at H
                                                    have c82b0 : decide (0 ≤ (ji81)) = true := decide_eq_true c82
                                                    clear c82
                                                    by_cases c83 : (ji81) < (x232001_6.size : Int)
                                                    · rw [if_pos c83] at H
                                                      have c83b0 : decide ((ji81) < (x232001_6.size : Int)) = true := decide_eq_true c83
                                                      clear c83
                                                      replace H := Option.bind_eq_some_iff.mp H
                                                      obtain ⟨t233, A850, H⟩ := H
                                                      replace H : (if t233 = true then (if (ji81) ≤ (x232001_6.size : Int) then (colophonref10_Find.l1 k6 a0 t224 x222000_1 x222001_1 x222002_1 t228 t229 t230 t225 t226 x232000_72 (cutS x232001_6 0 ((ji81) : Int).toNat) t228 t229 t230 x5_12) else (none)) else (if x222000_1.length < 2513169434916 then (colophonref10_Find.l0 k6 a0 0 t225 (x222000_1 ++ [(⟨x232000_72, x232001_6, (⟨t228, t229, t230⟩ : S26), x5_12⟩ : S48)]) x222001_1 x222002_1 t228 t229 t230) else (none))) = some (r1, r2, r3) := H
                                                      have A85 := Aside0.mk A850
                                                      clear A850
                                                      by_cases c86 : t233 = true
                                                      · subst c86
                                                        have H1 : (if (ji81) ≤ (x232001_6.size : Int) then (colophonref10_Find.l1 k6 a0 t224 x222000_1 x222001_1 x222002_1 t228 t229 t230 t225 t226 x232000_72 (cutS x232001_6 0 ((ji81) : Int).toNat) t228 t229 t230 x5_12) else (none)) = some (r1, r2, r3) := by rw [if_pos rfl] at H; exact H
                                                        clear H
                                                        have H := H1
                                                        clear H1
                                                        have c87b0 := eq_true (of_decide_eq_true (by first | (with_reducible assumption) | assumption) : 0 ≤ (ji81))
                                                        by_cases c88 : (ji81) ≤ (x232001_6.size : Int)
                                                        · rw [if_pos c88] at H
                                                          have c88b0 := eq_true c88
                                                          have c88b1 : decide ((ji81) ≤ (x232001_6.size : Int)) = true := decide_eq_true c88
                                                          clear c88
                                                          have H' := Aside0.mk H
                                                          clear H
                                                          have hnb89 := NB231_220.out
                                                          have hnc89 := NB220_231.out
                                                          have hnb90 := NB231_221.out
                                                          have hnc90 := NB221_231.out
                                                          have hnb91 := NB231_222.out
                                                          have hnc91 := NB222_231.out
                                                          have hnb92 := NB231_227.out
                                                          have hnc92 := NB227_231.out
                                                          have hcz93_0 : wr.cell? ⟨gb231, 0, none⟩ = some (.int .u8 x232000_72) := (blk_cell BK231.out 0).trans rfl
                                                          have hcz93_1 : wr.cell? ⟨gb231, 1, none⟩ = some (.string x232001_6) := (blk_cell BK231.out 1).trans rfl
                                                          have hcz93_2 : wr.cell? ⟨gb231, 2, none⟩ = some (.int .i64 t228) := (blk_cell BK231.out 2).trans rfl
                                                          have hcz93_3 : wr.cell? ⟨gb231, 3, none⟩ = some (.int .i64 t229) := (blk_cell BK231.out 3).trans rfl
                                                          have hcz93_4 : wr.cell? ⟨gb231, 4, none⟩ = some (.int .i64 t230) := (blk_cell BK231.out 4).trans rfl
                                                          have hcz93_5 : wr.cell? ⟨gb231, 5, none⟩ = some (.int .i64 x5_12) := (blk_cell BK231.out 5).trans rfl
                                                          have hfz93_0 := blk_frozen BK231.out 0
                                                          have hfz93_1 := blk_frozen BK231.out 1
                                                          have hfz93_2 := blk_frozen BK231.out 2
                                                          have hfz93_3 := blk_frozen BK231.out 3
                                                          have hfz93_4 := blk_frozen BK231.out 4
                                                          have hfz93_5 := blk_frozen BK231.out 5
                                                          have p84 : 0 ≤ ((ji81) : Int) := of_decide_eq_true (by first | (with_reducible assumption) | assumption)
                                                          have q84 : (ji81) < (x232001_6.size : Int) := of_decide_eq_true (by first | (with_reducible assumption) | assumption)
                                                          have hx84 := bt_at x232001_6 (ji81)
                                                          replace p84 := eq_true p84
                                                          replace q84 := eq_true q84
                                                          go_wp2_with (first | (go_at_call 31; (with_reducible refine (colophonref10_blank.calls (bt x232001_6 (ji81)) true _ A85.out).mono ?_); rintro e w94 ⟨rfl, hb⟩; have n0_ := Aside0.mk (Kd.R_below (by (with_reducible repeat (first | apply Kd.R_alloc | apply Kd.R_drewN | apply Kd.R_drew)); exact HO_222000.out) hb); have n1_ := Aside0.mk (blk_below (g := gb220) (o := .cells #[.slice none 0 0, .int .i64 x221001_1, .int .i64 x221002_1] 68 (0, 0)) (by (with_reducible repeat (first | refine blk_drewN ?_ _ | refine blk_drew ?_ | refine blk_alloc ?_ _)); exact BK220.out) hb); have n2_ := Aside0.mk (blk_below (g := gb221) (o := .cells #[u222000, .int .i64 x222001_1, .int .i64 x222002_1] 68 (0, 0)) (by (with_reducible repeat (first | refine blk_drewN ?_ _ | refine blk_drew ?_ | refine blk_alloc ?_ _)); exact BK221.out) hb); have n3_ := Aside0.mk (blk_below (g := gb222) (o := .cells #[.int .i64 t228, .int .i64 t229, .int .i64 t230] 26 (0, 0)) (by (with_reducible repeat (first | refine blk_drewN ?_ _ | refine blk_drew ?_ | refine blk_alloc ?_ _)); exact BK222.out) hb); have n4_ := Aside0.mk (blk_below (g := gb227) (o := .cells #[.int .i64 t225, .int .i64 t226] 90 (0, 0)) (by (with_reducible repeat (first | refine blk_drewN ?_ _ | refine blk_drew ?_ | refine blk_alloc ?_ _)); exact BK227.out) hb); have n5_ := Aside0.mk (blk_below (g := gb231) (o := .cells #[.int .u8 x232000_72, .string x232001_6, .int .i64 t228, .int .i64 t229, .int .i64 t230, .int .i64 x5_12] 48 (0, 0)) (by (with_reducible repeat (first | refine blk_drewN ?_ _ | refine blk_drew ?_ | refine blk_alloc ?_ _)); exact BK231.out) hb); have n6_ := Aside0.mk (below_step (by repeat (first | (with_reducible first | exact HB.out | apply below_alloc | apply pw_below_drewN | apply below_drew1 | refine below_set ?_ GE220.out | refine below_set ?_ GE221.out | refine below_set ?_ GE222.out | refine below_set ?_ GE227.out | refine below_set ?_ GE231.out) | exact HB.out)) hb); clear HO_222000; clear BK220; clear BK221; clear BK222; clear BK227; clear BK231; clear HB; have HO_222000 := n0_; have BK220 := n1_; have BK221 := n2_; have BK222 := n3_; have BK227 := n4_; have BK231 := n5_; have HB := n6_; clear n0_ n1_ n2_ n3_ n4_ n5_ n6_; (try clear hb); (try clear hb2); (try clear hk); (try clear hi); have hcz95_0 : w94.cell? ⟨gb231, 0, none⟩ = some (.int .u8 x232000_72) := (blk_cell BK231.out 0).trans rfl; have hcz95_1 : w94.cell? ⟨gb231, 1, none⟩ = some (.string x232001_6) := (blk_cell BK231.out 1).trans rfl; have hcz95_2 : w94.cell? ⟨gb231, 2, none⟩ = some (.int .i64 t228) := (blk_cell BK231.out 2).trans rfl; have hcz95_3 : w94.cell? ⟨gb231, 3, none⟩ = some (.int .i64 t229) := (blk_cell BK231.out 3).trans rfl; have hcz95_4 : w94.cell? ⟨gb231, 4, none⟩ = some (.int .i64 t230) := (blk_cell BK231.out 4).trans rfl; have hcz95_5 : w94.cell? ⟨gb231, 5, none⟩ = some (.int .i64 x5_12) := (blk_cell BK231.out 5).trans rfl; have hfz95_0 := blk_frozen BK231.out 0; have hfz95_1 := blk_frozen BK231.out 1; have hfz95_2 := blk_frozen BK231.out 2; have hfz95_3 := blk_frozen BK231.out 3; have hfz95_4 := blk_frozen BK231.out 4; have hfz95_5 := blk_frozen BK231.out 5))
                                                          go_roundg k6
                                                          case measure => have := HK1.out; have := HJ12.out; have := HJ14.out; have := HJ42.out; have := HJ72.out; have := HK6.out; omega
                                                          case rel => exact ⟨(cutS x232001_6 0 ((ji81) : Int).toNat), (by first | exact H' | (rw [hji81]; exact H')), ⟨by have := HK1.out; have := HJ12.out; have := HJ14.out; have := HJ42.out; have := HJ72.out; have := HK6.out; omega⟩, ⟨by (with_reducible repeat (first | apply Kd.R_alloc | apply Kd.R_drewN | apply Kd.R_drew)); exact Kd.R_mono (Kd.R_far (p := ⟨gb231, 1, none⟩) (Kd.R_mono HO_222000.out (fun k_ hk => (⟨hk, hk⟩ : _ ∧ k_ ≠ gb231))) (fun _ hk => hk.2) (.string (cutS x232001_6 0 ((ji81) : Int).toNat))) (fun _ hk => hk.1)⟩, ⟨by (with_reducible repeat (first | refine blk_drewN ?_ _ | refine blk_drew ?_ | refine blk_alloc ?_ _)); refine blk_far ?_ NB220_231.out _; (with_reducible repeat (first | refine blk_drewN ?_ _ | refine blk_drew ?_ | refine blk_alloc ?_ _)); exact BK220.out⟩, ⟨by (with_reducible repeat (first | refine blk_drewN ?_ _ | refine blk_drew ?_ | refine blk_alloc ?_ _)); refine blk_far ?_ NB221_231.out _; (with_reducible repeat (first | refine blk_drewN ?_ _ | refine blk_drew ?_ | refine blk_alloc ?_ _)); exact BK221.out⟩, ⟨by (with_reducible repeat (first | refine blk_drewN ?_ _ | refine blk_drew ?_ | refine blk_alloc ?_ _)); refine blk_far ?_ NB222_231.out _; (with_reducible repeat (first | refine blk_drewN ?_ _ | refine blk_drew ?_ | refine blk_alloc ?_ _)); exact BK222.out⟩, ⟨by (with_reducible repeat (first | refine blk_drewN ?_ _ | refine blk_drew ?_ | refine blk_alloc ?_ _)); refine blk_far ?_ NB227_231.out _; (with_reducible repeat (first | refine blk_drewN ?_ _ | refine blk_drew ?_ | refine blk_alloc ?_ _)); exact BK227.out⟩, ⟨by (with_reducible repeat (first | refine blk_drewN ?_ _ | refine blk_drew ?_ | refine blk_alloc ?_ _)); refine blk_put (cs := #[.int .u8 x232000_72, .string x232001_6, .int .i64 t228, .int .i64 t229, .int .i64 t230, .int .i64 x5_12]) ?_ 1 _ rfl; (with_reducible repeat (first | refine blk_drewN ?_ _ | refine blk_drew ?_ | refine blk_alloc ?_ _)); exact BK231.out⟩, ⟨by repeat (first | (with_reducible first | exact HB.out | apply below_alloc | apply pw_below_drewN | apply below_drew1 | refine below_set ?_ GE220.out | refine below_set ?_ GE221.out | refine below_set ?_ GE222.out | refine below_set ?_ GE227.out | refine below_set ?_ GE231.out) | exact HB.out)⟩⟩
                                                        · rw [if_neg c88] at H
                                                          exact absurd H (by simp)
                                                      · replace c86 := Bool.eq_false_iff.mpr c86
                                                        subst c86
                                                        have H1 : (if x222000_1.length < 2513169434916 then (colophonref10_Find.l0 k6 a0 0 t225 (x222000_1 ++ [(⟨x232000_72, x232001_6, (⟨t228, t229, t230⟩ : S26), x5_12⟩ : S48)]) x222001_1 x222002_1 t228 t229 t230) else (none)) = some (r1, r2, r3) := by rw [if_neg (show ¬ (false = true) by decide)] at H; exact H
                                                        clear H
                                                        have H := H1
                                                        clear H1
                                                        by_cases c96 : x222000_1.length < 2513169434916
                                                        · rw [if_pos c96] at H
                                                          have LMc96 := Aside0.mk c96
                                                          clear c96
                                                          obtain ⟨y234, hy234⟩ : ∃ y_ : List (S48), y_ = (x222000_1 ++ [(⟨x232000_72, x232001_6, (⟨t228, t229, t230⟩ : S26), x5_12⟩ : S48)]) := ⟨_, rfl⟩
                                                          replace H : (colophonref10_Find.l0 k6 a0 0 t225 y234 x222001_1 x222002_1 t228 t229 t230) = some (r1, r2, r3) := by first | (rw [hy234]; with_reducible exact H) | (have H2_ := (Option.bind_some _ _).symm.trans H; rw [hy234]; with_reducible exact H2_) | (have H2_ := (Option.bind_some _ _).symm.trans H; with_reducible exact H2_) | with_reducible exact H | (rw [hy234]; exact H) | exact H
                                                          have Ny234 := Aside0.mk hy234
                                                          clear hy234
                                                          have H' := Aside0.mk H
                                                          clear H
                                                          have hnb97 := NB231_220.out
                                                          have hnc97 := NB220_231.out
                                                          have hnb98 := NB231_221.out
                                                          have hnc98 := NB221_231.out
                                                          have hnb99 := NB231_222.out
                                                          have hnc99 := NB222_231.out
                                                          have hnb100 := NB231_227.out
                                                          have hnc100 := NB227_231.out
                                                          have hcz101_0 : wr.cell? ⟨gb231, 0, none⟩ = some (.int .u8 x232000_72) := (blk_cell BK231.out 0).trans rfl
                                                          have hcz101_1 : wr.cell? ⟨gb231, 1, none⟩ = some (.string x232001_6) := (blk_cell BK231.out 1).trans rfl
                                                          have hcz101_2 : wr.cell? ⟨gb231, 2, none⟩ = some (.int .i64 t228) := (blk_cell BK231.out 2).trans rfl
                                                          have hcz101_3 : wr.cell? ⟨gb231, 3, none⟩ = some (.int .i64 t229) := (blk_cell BK231.out 3).trans rfl
                                                          have hcz101_4 : wr.cell? ⟨gb231, 4, none⟩ = some (.int .i64 t230) := (blk_cell BK231.out 4).trans rfl
                                                          have hcz101_5 : wr.cell? ⟨gb231, 5, none⟩ = some (.int .i64 x5_12) := (blk_cell BK231.out 5).trans rfl
                                                          have hfz101_0 := blk_frozen BK231.out 0
                                                          have hfz101_1 := blk_frozen BK231.out 1
                                                          have hfz101_2 := blk_frozen BK231.out 2
                                                          have hfz101_3 := blk_frozen BK231.out 3
                                                          have hfz101_4 := blk_frozen BK231.out 4
                                                          have hfz101_5 := blk_frozen BK231.out 5
                                                          have p84 : 0 ≤ ((ji81) : Int) := of_decide_eq_true (by first | (with_reducible assumption) | assumption)
                                                          have q84 : (ji81) < (x232001_6.size : Int) := of_decide_eq_true (by first | (with_reducible assumption) | assumption)
                                                          have hx84 := bt_at x232001_6 (ji81)
                                                          replace p84 := eq_true p84
                                                          replace q84 := eq_true q84
                                                          go_wp2_with (first | (go_at_call 31; (with_reducible refine (colophonref10_blank.calls (bt x232001_6 (ji81)) false _ A85.out).mono ?_); rintro e w102 ⟨rfl, hb⟩; have n0_ := Aside0.mk (Kd.R_below (by (with_reducible repeat (first | apply Kd.R_alloc | apply Kd.R_drewN | apply Kd.R_drew)); exact HO_222000.out) hb); have n1_ := Aside0.mk (blk_below (g := gb220) (o := .cells #[.slice none 0 0, .int .i64 x221001_1, .int .i64 x221002_1] 68 (0, 0)) (by (with_reducible repeat (first | refine blk_drewN ?_ _ | refine blk_drew ?_ | refine blk_alloc ?_ _)); exact BK220.out) hb); have n2_ := Aside0.mk (blk_below (g := gb221) (o := .cells #[u222000, .int .i64 x222001_1, .int .i64 x222002_1] 68 (0, 0)) (by (with_reducible repeat (first | refine blk_drewN ?_ _ | refine blk_drew ?_ | refine blk_alloc ?_ _)); exact BK221.out) hb); have n3_ := Aside0.mk (blk_below (g := gb222) (o := .cells #[.int .i64 t228, .int .i64 t229, .int .i64 t230] 26 (0, 0)) (by (with_reducible repeat (first | refine blk_drewN ?_ _ | refine blk_drew ?_ | refine blk_alloc ?_ _)); exact BK222.out) hb); have n4_ := Aside0.mk (blk_below (g := gb227) (o := .cells #[.int .i64 t225, .int .i64 t226] 90 (0, 0)) (by (with_reducible repeat (first | refine blk_drewN ?_ _ | refine blk_drew ?_ | refine blk_alloc ?_ _)); exact BK227.out) hb); have n5_ := Aside0.mk (blk_below (g := gb231) (o := .cells #[.int .u8 x232000_72, .string x232001_6, .int .i64 t228, .int .i64 t229, .int .i64 t230, .int .i64 x5_12] 48 (0, 0)) (by (with_reducible repeat (first | refine blk_drewN ?_ _ | refine blk_drew ?_ | refine blk_alloc ?_ _)); exact BK231.out) hb); have n6_ := Aside0.mk (below_step (by repeat (first | (with_reducible first | exact HB.out | apply below_alloc | apply pw_below_drewN | apply below_drew1 | refine below_set ?_ GE220.out | refine below_set ?_ GE221.out | refine below_set ?_ GE222.out | refine below_set ?_ GE227.out | refine below_set ?_ GE231.out) | exact HB.out)) hb); clear HO_222000; clear BK220; clear BK221; clear BK222; clear BK227; clear BK231; clear HB; have HO_222000 := n0_; have BK220 := n1_; have BK221 := n2_; have BK222 := n3_; have BK227 := n4_; have BK231 := n5_; have HB := n6_; clear n0_ n1_ n2_ n3_ n4_ n5_ n6_; (try clear hb); (try clear hb2); (try clear hk); (try clear hi); have hnb103 := NB221_220.out; have hnc103 := NB220_221.out; have hnb104 := NB221_222.out; have hnc104 := NB222_221.out; have hnb105 := NB221_227.out; have hnc105 := NB227_221.out; have hcz106_0 : w102.cell? ⟨gb221, 0, none⟩ = some (u222000) := (blk_cell BK221.out 0).trans rfl; have hcz106_1 : w102.cell? ⟨gb221, 1, none⟩ = some (.int .i64 x222001_1) := (blk_cell BK221.out 1).trans rfl; have hcz106_2 : w102.cell? ⟨gb221, 2, none⟩ = some (.int .i64 x222002_1) := (blk_cell BK221.out 2).trans rfl; have hfz106_0 := blk_frozen BK221.out 0; have hfz106_1 := blk_frozen BK221.out 1; have hfz106_2 := blk_frozen BK221.out 2; have hcz107_0 : w102.cell? ⟨gb231, 0, none⟩ = some (.int .u8 x232000_72) := (blk_cell BK231.out 0).trans rfl; have hcz107_1 : w102.cell? ⟨gb231, 1, none⟩ = some (.string x232001_6) := (blk_cell BK231.out 1).trans rfl; have hcz107_2 : w102.cell? ⟨gb231, 2, none⟩ = some (.int .i64 t228) := (blk_cell BK231.out 2).trans rfl; have hcz107_3 : w102.cell? ⟨gb231, 3, none⟩ = some (.int .i64 t229) := (blk_cell BK231.out 3).trans rfl; have hcz107_4 : w102.cell? ⟨gb231, 4, none⟩ = some (.int .i64 t230) := (blk_cell BK231.out 4).trans rfl; have hcz107_5 : w102.cell? ⟨gb231, 5, none⟩ = some (.int .i64 x5_12) := (blk_cell BK231.out 5).trans rfl; have hfz107_0 := blk_frozen BK231.out 0; have hfz107_1 := blk_frozen BK231.out 1; have hfz107_2 := blk_frozen BK231.out 2; have hfz107_3 := blk_frozen BK231.out 3; have hfz107_4 := blk_frozen BK231.out 4; have hfz107_5 := blk_frozen BK231.out 5) | ((with_reducible refine gate_builtin (b := .append) (xs := #[.tmp 104, .tmp 106]) rfl ?_); (try (refine gate_guard (by rfl) ?_; dsimp only)); at_builtin; refine Kd.R_append k48 (w0 := w) w.heap.size rfl (.tmp 104) (.tmp 106) 42 48 (.agg #[(.int .u8 0), (.string ⟨#[]⟩), (.int .i64 0), (.int .i64 0), (.int .i64 0), (.int .i64 0)]) 56 rfl Tryz.underlying42 info48 rfl (by decide) (by omega) u222000 x222000_1 (⟨x232000_72, x232001_6, (⟨t228, t229, t230⟩ : S26), x5_12⟩ : S48) [.int .u8 x232000_72, .string x232001_6, .int .i64 t228, .int .i64 t229, .int .i64 t230, .int .i64 x5_12] (fun k_ => k_ ≠ gb231) (fun _ => False) rfl rfl ?aP (fun _ hk => hk.elim) ?aF ?aO ?aB ?aS ?aL ?_; (case aP => exact k48_mkM _ _ _ (⟨x232000_72, x232001_6, (⟨t228, t229, t230⟩ : S26), x5_12⟩ : S48)); (case aB => exact (by repeat (first | (with_reducible first | exact HB.out | apply below_alloc | apply pw_below_drewN | apply below_drew1 | refine below_set ?_ GE220.out | refine below_set ?_ GE221.out | refine below_set ?_ GE222.out | refine below_set ?_ GE227.out | refine below_set ?_ GE231.out) | exact HB.out))); (case aF => exact (fun k_ hk => Kd.freshB (g := gb231) (o := .cells #[.int .u8 x232000_72, .string x232001_6, .int .i64 t228, .int .i64 t229, .int .i64 t230, .int .i64 x5_12] 48 (0, 0)) (by (with_reducible repeat (first | refine blk_drewN ?_ _ | refine blk_drew ?_ | refine blk_alloc ?_ _)); exact BK231.out) k_ hk)); (case aO => exact (by (with_reducible repeat (first | apply Kd.R_alloc | apply Kd.R_drewN | apply Kd.R_drew)); exact HO_222000.out)); (case aS => exact (below_size (by repeat (first | (with_reducible first | exact HB.out | apply below_alloc | apply pw_below_drewN | apply below_drew1 | refine below_set ?_ GE220.out | refine below_set ?_ GE221.out | refine below_set ?_ GE222.out | refine below_set ?_ GE227.out | refine below_set ?_ GE231.out) | exact HB.out)))); (case aL => have := LMc96.out; omega); intro v235 w108 ho hb hg hat; rw [← Ny234.out] at ho; have n0_ := Aside0.mk (blk_grown (g := gb220) (o := .cells #[.slice none 0 0, .int .i64 x221001_1, .int .i64 x221002_1] 68 (0, 0)) (by (with_reducible repeat (first | refine blk_drewN ?_ _ | refine blk_drew ?_ | refine blk_alloc ?_ _)); exact BK220.out) hg (Kd.R_ne HO_222000.out BK220.out (by decide))); have n1_ := Aside0.mk (blk_grown (g := gb221) (o := .cells #[u222000, .int .i64 x222001_1, .int .i64 x222002_1] 68 (0, 0)) (by (with_reducible repeat (first | refine blk_drewN ?_ _ | refine blk_drew ?_ | refine blk_alloc ?_ _)); exact BK221.out) hg (Kd.R_ne HO_222000.out BK221.out (by decide))); have n2_ := Aside0.mk (blk_grown (g := gb222) (o := .cells #[.int .i64 t228, .int .i64 t229, .int .i64 t230] 26 (0, 0)) (by (with_reducible repeat (first | refine blk_drewN ?_ _ | refine blk_drew ?_ | refine blk_alloc ?_ _)); exact BK222.out) hg (Kd.R_ne HO_222000.out BK222.out (by decide))); have n3_ := Aside0.mk (blk_grown (g := gb227) (o := .cells #[.int .i64 t225, .int .i64 t226] 90 (0, 0)) (by (with_reducible repeat (first | refine blk_drewN ?_ _ | refine blk_drew ?_ | refine blk_alloc ?_ _)); exact BK227.out) hg (Kd.R_ne HO_222000.out BK227.out (by decide))); have n4_ := Aside0.mk (blk_grown (g := gb231) (o := .cells #[.int .u8 x232000_72, .string x232001_6, .int .i64 t228, .int .i64 t229, .int .i64 t230, .int .i64 x5_12] 48 (0, 0)) (by (with_reducible repeat (first | refine blk_drewN ?_ _ | refine blk_drew ?_ | refine blk_alloc ?_ _)); exact BK231.out) hg (Kd.R_away HO_222000.out (fun _ hk => hk))); have n5_ := Aside0.mk (hb); have n6_ := Aside0.mk (ho); clear BK220; clear BK221; clear BK222; clear BK227; clear BK231; clear HB; clear HO_222000; have BK220 := n0_; have BK221 := n1_; have BK222 := n2_; have BK227 := n3_; have BK231 := n4_; have HB := n5_; have HO236 := n6_; clear n0_ n1_ n2_ n3_ n4_ n5_ n6_; clear ho hb hg hat; obtain ⟨Ao109, co109, eo109⟩ := Kd.R_slice HO236.out; subst eo109; have hcz110_0 : w108.cell? ⟨gb221, 0, none⟩ = some (u222000) := (blk_cell BK221.out 0).trans rfl; have hcz110_1 : w108.cell? ⟨gb221, 1, none⟩ = some (.int .i64 x222001_1) := (blk_cell BK221.out 1).trans rfl; have hcz110_2 : w108.cell? ⟨gb221, 2, none⟩ = some (.int .i64 x222002_1) := (blk_cell BK221.out 2).trans rfl; have hfz110_0 := blk_frozen BK221.out 0; have hfz110_1 := blk_frozen BK221.out 1; have hfz110_2 := blk_frozen BK221.out 2; have hnb111 := NB227_220.out; have hnc111 := NB220_227.out; have hnb112 := NB227_222.out; have hnc112 := NB222_227.out; have hcz113_0 : w108.cell? ⟨gb227, 0, none⟩ = some (.int .i64 t225) := (blk_cell BK227.out 0).trans rfl; have hcz113_1 : w108.cell? ⟨gb227, 1, none⟩ = some (.int .i64 t226) := (blk_cell BK227.out 1).trans rfl; have hfz113_0 := blk_frozen BK227.out 0; have hfz113_1 := blk_frozen BK227.out 1))
                                                          go_roundg k6
                                                          case measure => have := HK1.out; have := HJ12.out; have := HJ14.out; have := HJ42.out; have := HJ72.out; have := HK6.out; omega
                                                          case rel => exact ⟨(0), (t225), (x221001_1), (x221002_1), (y234), (x222001_1), (x222002_1), (t228), (t229), (t230), (.slice Ao109 y234.length co109), (by first | rfl | (simp; done) | (simp [*]; done)), (by first | rfl | (simp; done) | (simp [*]; done)), (by first | exact H' | (rw [hji81]; exact H')), ⟨by have := HK1.out; have := HJ12.out; have := HJ14.out; have := HJ42.out; have := HJ72.out; have := HK6.out; omega⟩, ⟨by (with_reducible repeat (first | apply Kd.R_alloc | apply Kd.R_drewN | apply Kd.R_drew)); exact Kd.R_mono (Kd.R_far (p := ⟨gb221, 0, none⟩) (Kd.R_types HO236.out BK221.out (by decide)) (fun _ hk => hk.2) (.slice Ao109 y234.length co109)) (fun _ hk => trivial)⟩, ⟨by (with_reducible repeat (first | refine blk_drewN ?_ _ | refine blk_drew ?_ | refine blk_alloc ?_ _)); refine blk_far ?_ NB220_221.out _; (with_reducible repeat (first | refine blk_drewN ?_ _ | refine blk_drew ?_ | refine blk_alloc ?_ _)); exact BK220.out⟩, ⟨by (with_reducible repeat (first | refine blk_drewN ?_ _ | refine blk_drew ?_ | refine blk_alloc ?_ _)); refine blk_put (cs := #[u222000, .int .i64 x222001_1, .int .i64 x222002_1]) ?_ 0 _ rfl; (with_reducible repeat (first | refine blk_drewN ?_ _ | refine blk_drew ?_ | refine blk_alloc ?_ _)); exact BK221.out⟩, ⟨by (with_reducible repeat (first | refine blk_drewN ?_ _ | refine blk_drew ?_ | refine blk_alloc ?_ _)); refine blk_far ?_ NB222_221.out _; (with_reducible repeat (first | refine blk_drewN ?_ _ | refine blk_drew ?_ | refine blk_alloc ?_ _)); exact BK222.out⟩, ⟨by repeat (first | (with_reducible first | exact HB.out | apply below_alloc | apply pw_below_drewN | apply below_drew1 | refine below_set ?_ GE220.out | refine below_set ?_ GE221.out | refine below_set ?_ GE222.out | refine below_set ?_ GE227.out | refine below_set ?_ GE231.out) | exact HB.out)⟩⟩
                                                        · rw [if_neg c96] at H
                                                          exact absurd H (by simp)
                                                    · rw [if_neg c83] at H
                                                      exact absurd H (by simp)
                                                  · rw [if_neg c82] at H
                                                    exact absurd H (by simp)
                                                · rw [if_neg c80] at H
                                                  have c80b0 : (t224 == 7) = false := beq_eq_false_iff_ne.mpr c80
                                                  have c80b1 : (t224 != 7) = true := bne_iff_ne.mpr c80
                                                  by_cases c114 : x222000_1.length < 2513169434916
                                                  · rw [if_pos c114] at H
                                                    have LMc114 := Aside0.mk c114
                                                    clear c114
                                                    obtain ⟨y237, hy237⟩ : ∃ y_ : List (S48), y_ = (x222000_1 ++ [(⟨x232000_72, x232001_6, (⟨t228, t229, t230⟩ : S26), x5_12⟩ : S48)]) := ⟨_, rfl⟩
                                                    replace H : (colophonref10_Find.l0 k6 a0 0 t225 y237 x222001_1 x222002_1 t228 t229 t230) = some (r1, r2, r3) := by first | (rw [hy237]; with_reducible exact H) | (have H2_ := (Option.bind_some _ _).symm.trans H; rw [hy237]; with_reducible exact H2_) | (have H2_ := (Option.bind_some _ _).symm.trans H; with_reducible exact H2_) | with_reducible exact H | (rw [hy237]; exact H) | exact H
                                                    have Ny237 := Aside0.mk hy237
                                                    clear hy237
                                                    have H' := Aside0.mk H
                                                    clear H
                                                    have hnb115 := NB221_220.out
                                                    have hnc115 := NB220_221.out
                                                    have hnb116 := NB221_222.out
                                                    have hnc116 := NB222_221.out
                                                    have hnb117 := NB221_227.out
                                                    have hnc117 := NB227_221.out
                                                    have hnb118 := NB221_231.out
                                                    have hnc118 := NB231_221.out
                                                    have hcz119_0 : wr.cell? ⟨gb221, 0, none⟩ = some (u222000) := (blk_cell BK221.out 0).trans rfl
                                                    have hcz119_1 : wr.cell? ⟨gb221, 1, none⟩ = some (.int .i64 x222001_1) := (blk_cell BK221.out 1).trans rfl
                                                    have hcz119_2 : wr.cell? ⟨gb221, 2, none⟩ = some (.int .i64 x222002_1) := (blk_cell BK221.out 2).trans rfl
                                                    have hfz119_0 := blk_frozen BK221.out 0
                                                    have hfz119_1 := blk_frozen BK221.out 1
                                                    have hfz119_2 := blk_frozen BK221.out 2
                                                    have hnb120 := NB231_220.out
                                                    have hnc120 := NB220_231.out
                                                    have hnb121 := NB231_222.out
                                                    have hnc121 := NB222_231.out
                                                    have hnb122 := NB231_227.out
                                                    have hnc122 := NB227_231.out
                                                    have hcz123_0 : wr.cell? ⟨gb231, 0, none⟩ = some (.int .u8 x232000_72) := (blk_cell BK231.out 0).trans rfl
                                                    have hcz123_1 : wr.cell? ⟨gb231, 1, none⟩ = some (.string x232001_6) := (blk_cell BK231.out 1).trans rfl
                                                    have hcz123_2 : wr.cell? ⟨gb231, 2, none⟩ = some (.int .i64 t228) := (blk_cell BK231.out 2).trans rfl
                                                    have hcz123_3 : wr.cell? ⟨gb231, 3, none⟩ = some (.int .i64 t229) := (blk_cell BK231.out 3).trans rfl
                                                    have hcz123_4 : wr.cell? ⟨gb231, 4, none⟩ = some (.int .i64 t230) := (blk_cell BK231.out 4).trans rfl
                                                    have hcz123_5 : wr.cell? ⟨gb231, 5, none⟩ = some (.int .i64 x5_12) := (blk_cell BK231.out 5).trans rfl
                                                    have hfz123_0 := blk_frozen BK231.out 0
                                                    have hfz123_1 := blk_frozen BK231.out 1
                                                    have hfz123_2 := blk_frozen BK231.out 2
                                                    have hfz123_3 := blk_frozen BK231.out 3
                                                    have hfz123_4 := blk_frozen BK231.out 4
                                                    have hfz123_5 := blk_frozen BK231.out 5
                                                    go_wp2_with (first | ((with_reducible refine gate_builtin (b := .append) (xs := #[.tmp 104, .tmp 106]) rfl ?_); (try (refine gate_guard (by rfl) ?_; dsimp only)); at_builtin; refine Kd.R_append k48 (w0 := w) w.heap.size rfl (.tmp 104) (.tmp 106) 42 48 (.agg #[(.int .u8 0), (.string ⟨#[]⟩), (.int .i64 0), (.int .i64 0), (.int .i64 0), (.int .i64 0)]) 56 rfl Tryz.underlying42 info48 rfl (by decide) (by omega) u222000 x222000_1 (⟨x232000_72, x232001_6, (⟨t228, t229, t230⟩ : S26), x5_12⟩ : S48) [.int .u8 x232000_72, .string x232001_6, .int .i64 t228, .int .i64 t229, .int .i64 t230, .int .i64 x5_12] (fun k_ => k_ ≠ gb231) (fun _ => False) rfl rfl ?aP (fun _ hk => hk.elim) ?aF ?aO ?aB ?aS ?aL ?_; (case aP => exact k48_mkM _ _ _ (⟨x232000_72, x232001_6, (⟨t228, t229, t230⟩ : S26), x5_12⟩ : S48)); (case aB => exact (by repeat (first | (with_reducible first | exact HB.out | apply below_alloc | apply pw_below_drewN | apply below_drew1 | refine below_set ?_ GE220.out | refine below_set ?_ GE221.out | refine below_set ?_ GE222.out | refine below_set ?_ GE227.out | refine below_set ?_ GE231.out) | exact HB.out))); (case aF => exact (fun k_ hk => Kd.freshB (g := gb231) (o := .cells #[.int .u8 x232000_72, .string x232001_6, .int .i64 t228, .int .i64 t229, .int .i64 t230, .int .i64 x5_12] 48 (0, 0)) (by (with_reducible repeat (first | refine blk_drewN ?_ _ | refine blk_drew ?_ | refine blk_alloc ?_ _)); exact BK231.out) k_ hk)); (case aO => exact (by (with_reducible repeat (first | apply Kd.R_alloc | apply Kd.R_drewN | apply Kd.R_drew)); exact HO_222000.out)); (case aS => exact (below_size (by repeat (first | (with_reducible first | exact HB.out | apply below_alloc | apply pw_below_drewN | apply below_drew1 | refine below_set ?_ GE220.out | refine below_set ?_ GE221.out | refine below_set ?_ GE222.out | refine below_set ?_ GE227.out | refine below_set ?_ GE231.out) | exact HB.out)))); (case aL => have := LMc114.out; omega); intro v238 w124 ho hb hg hat; rw [← Ny237.out] at ho; have n0_ := Aside0.mk (blk_grown (g := gb220) (o := .cells #[.slice none 0 0, .int .i64 x221001_1, .int .i64 x221002_1] 68 (0, 0)) (by (with_reducible repeat (first | refine blk_drewN ?_ _ | refine blk_drew ?_ | refine blk_alloc ?_ _)); exact BK220.out) hg (Kd.R_ne HO_222000.out BK220.out (by decide))); have n1_ := Aside0.mk (blk_grown (g := gb221) (o := .cells #[u222000, .int .i64 x222001_1, .int .i64 x222002_1] 68 (0, 0)) (by (with_reducible repeat (first | refine blk_drewN ?_ _ | refine blk_drew ?_ | refine blk_alloc ?_ _)); exact BK221.out) hg (Kd.R_ne HO_222000.out BK221.out (by decide))); have n2_ := Aside0.mk (blk_grown (g := gb222) (o := .cells #[.int .i64 t228, .int .i64 t229, .int .i64 t230] 26 (0, 0)) (by (with_reducible repeat (first | refine blk_drewN ?_ _ | refine blk_drew ?_ | refine blk_alloc ?_ _)); exact BK222.out) hg (Kd.R_ne HO_222000.out BK222.out (by decide))); have n3_ := Aside0.mk (blk_grown (g := gb227) (o := .cells #[.int .i64 t225, .int .i64 t226] 90 (0, 0)) (by (with_reducible repeat (first | refine blk_drewN ?_ _ | refine blk_drew ?_ | refine blk_alloc ?_ _)); exact BK227.out) hg (Kd.R_ne HO_222000.out BK227.out (by decide))); have n4_ := Aside0.mk (blk_grown (g := gb231) (o := .cells #[.int .u8 x232000_72, .string x232001_6, .int .i64 t228, .int .i64 t229, .int .i64 t230, .int .i64 x5_12] 48 (0, 0)) (by (with_reducible repeat (first | refine blk_drewN ?_ _ | refine blk_drew ?_ | refine blk_alloc ?_ _)); exact BK231.out) hg (Kd.R_away HO_222000.out (fun _ hk => hk))); have n5_ := Aside0.mk (hb); have n6_ := Aside0.mk (ho); clear BK220; clear BK221; clear BK222; clear BK227; clear BK231; clear HB; clear HO_222000; have BK220 := n0_; have BK221 := n1_; have BK222 := n2_; have BK227 := n3_; have BK231 := n4_; have HB := n5_; have HO239 := n6_; clear n0_ n1_ n2_ n3_ n4_ n5_ n6_; clear ho hb hg hat; obtain ⟨Ao125, co125, eo125⟩ := Kd.R_slice HO239.out; subst eo125; have hcz126_0 : w124.cell? ⟨gb221, 0, none⟩ = some (u222000) := (blk_cell BK221.out 0).trans rfl; have hcz126_1 : w124.cell? ⟨gb221, 1, none⟩ = some (.int .i64 x222001_1) := (blk_cell BK221.out 1).trans rfl; have hcz126_2 : w124.cell? ⟨gb221, 2, none⟩ = some (.int .i64 x222002_1) := (blk_cell BK221.out 2).trans rfl; have hfz126_0 := blk_frozen BK221.out 0; have hfz126_1 := blk_frozen BK221.out 1; have hfz126_2 := blk_frozen BK221.out 2; have hnb127 := NB227_220.out; have hnc127 := NB220_227.out; have hnb128 := NB227_222.out; have hnc128 := NB222_227.out; have hcz129_0 : w124.cell? ⟨gb227, 0, none⟩ = some (.int .i64 t225) := (blk_cell BK227.out 0).trans rfl; have hcz129_1 : w124.cell? ⟨gb227, 1, none⟩ = some (.int .i64 t226) := (blk_cell BK227.out 1).trans rfl; have hfz129_0 := blk_frozen BK227.out 0; have hfz129_1 := blk_frozen BK227.out 1))
                                                    go_roundg k6
                                                    case measure => have := HK1.out; have := HJ12.out; have := HJ14.out; have := HJ42.out; have := HJ72.out; have := HK6.out; omega
                                                    case rel => exact ⟨(0), (t225), (x221001_1), (x221002_1), (y237), (x222001_1), (x222002_1), (t228), (t229), (t230), (.slice Ao125 y237.length co125), (by first | rfl | (simp; done) | (simp [*]; done)), (by first | rfl | (simp; done) | (simp [*]; done)), (by first | exact H' | (rw [hji81]; exact H')), ⟨by have := HK1.out; have := HJ12.out; have := HJ14.out; have := HJ42.out; have := HJ72.out; have := HK6.out; omega⟩, ⟨by (with_reducible repeat (first | apply Kd.R_alloc | apply Kd.R_drewN | apply Kd.R_drew)); exact Kd.R_mono (Kd.R_far (p := ⟨gb221, 0, none⟩) (Kd.R_types HO239.out BK221.out (by decide)) (fun _ hk => hk.2) (.slice Ao125 y237.length co125)) (fun _ hk => trivial)⟩, ⟨by (with_reducible repeat (first | refine blk_drewN ?_ _ | refine blk_drew ?_ | refine blk_alloc ?_ _)); refine blk_far ?_ NB220_221.out _; (with_reducible repeat (first | refine blk_drewN ?_ _ | refine blk_drew ?_ | refine blk_alloc ?_ _)); exact BK220.out⟩, ⟨by (with_reducible repeat (first | refine blk_drewN ?_ _ | refine blk_drew ?_ | refine blk_alloc ?_ _)); refine blk_put (cs := #[u222000, .int .i64 x222001_1, .int .i64 x222002_1]) ?_ 0 _ rfl; (with_reducible repeat (first | refine blk_drewN ?_ _ | refine blk_drew ?_ | refine blk_alloc ?_ _)); exact BK221.out⟩, ⟨by (with_reducible repeat (first | refine blk_drewN ?_ _ | refine blk_drew ?_ | refine blk_alloc ?_ _)); refine blk_far ?_ NB222_221.out _; (with_reducible repeat (first | refine blk_drewN ?_ _ | refine blk_drew ?_ | refine blk_alloc ?_ _)); exact BK222.out⟩, ⟨by repeat (first | (with_reducible first | exact HB.out | apply below_alloc | apply pw_below_drewN | apply below_drew1 | refine below_set ?_ GE220.out | refine below_set ?_ GE221.out | refine below_set ?_ GE222.out | refine below_set ?_ GE227.out | refine below_set ?_ GE231.out) | exact HB.out)⟩⟩
                                                  · rw [if_neg c114] at H
                                                    exact absurd H (by simp)
                                  · rw [if_neg c41] at H
                                    exact absurd H (by simp)
                                · rw [if_neg c40] at H
                                  exact absurd H (by simp)
                              · rw [if_neg c39] at H
                                exact absurd H (by simp)
                            · rw [if_neg c37] at H
                              exact absurd H (by simp)
                          · rw [if_neg c36] at H
                            exact absurd H (by simp)
                        · rw [if_neg c35] at H
                          exact absurd H (by simp)
                      · rw [if_neg c34] at H
                        have c34b0 : (t226 == 0) = false := beq_eq_false_iff_ne.mpr c34
                        have c34b1 : (t226 != 0) = true := bne_iff_ne.mpr c34
                        simp only [Option.some.injEq, Prod.mk.injEq] at H
                        obtain ⟨rfl, rfl, rfl⟩ := H
                        go_wp2_with (first | ((with_reducible refine gate_callee (f := 32) rfl ?_); refine goesL_ (some 37) rfl rfl Tryz.func32 (by kernel_rfl) rfl #[.string a0, .int .i64 x6_1] rfl (by (try simp only [List.map_toArray, List.map_cons, List.map_nil]); first | done | rfl | (simp only [List.length_drop, List.length_take]; rfl)) ?_; (with_reducible refine (colophonref10_begins.calls kj14 a0 x6_1 t224 _ A24.out).mono ?_); rintro e w130 ⟨rfl, hb⟩; refine ⟨_, rfl, ?_⟩; have n0_ := Aside0.mk (Kd.R_below (by (with_reducible repeat (first | apply Kd.R_alloc | apply Kd.R_drewN | apply Kd.R_drew)); exact HO_222000.out) hb); have n1_ := Aside0.mk (blk_below (g := gb220) (o := .cells #[.slice none 0 0, .int .i64 x221001_1, .int .i64 x221002_1] 68 (0, 0)) (by (with_reducible repeat (first | refine blk_drewN ?_ _ | refine blk_drew ?_ | refine blk_alloc ?_ _)); exact BK220.out) hb); have n2_ := Aside0.mk (blk_below (g := gb221) (o := .cells #[u222000, .int .i64 x222001_1, .int .i64 x222002_1] 68 (0, 0)) (by (with_reducible repeat (first | refine blk_drewN ?_ _ | refine blk_drew ?_ | refine blk_alloc ?_ _)); exact BK221.out) hb); have n3_ := Aside0.mk (blk_below (g := gb222) (o := .cells #[.int .i64 x223000_1, .int .i64 x223001_1, .int .i64 x223002_1] 26 (0, 0)) (by (with_reducible repeat (first | refine blk_drewN ?_ _ | refine blk_drew ?_ | refine blk_alloc ?_ _)); exact BK222.out) hb); have n4_ := Aside0.mk (below_step (by repeat (first | (with_reducible first | exact HB.out | apply below_alloc | apply pw_below_drewN | apply below_drew1 | refine below_set ?_ GE220.out | refine below_set ?_ GE221.out | refine below_set ?_ GE222.out) | exact HB.out)) hb); clear HO_222000; clear BK220; clear BK221; clear BK222; clear HB; have HO_222000 := n0_; have BK220 := n1_; have BK221 := n2_; have BK222 := n3_; have HB := n4_; clear n0_ n1_ n2_ n3_ n4_; (try clear hb); (try clear hb2); (try clear hk); (try clear hi)) | ((with_reducible refine gate_callee (f := 33) rfl ?_); refine goesL_ (some 47) rfl rfl Tryz.func33 (by kernel_rfl) rfl #[.string a0, .int .i64 x6_1, .int .u8 t224] rfl (by (try simp only [List.map_toArray, List.map_cons, List.map_nil]); first | done | rfl | (simp only [List.length_drop, List.length_take]; rfl)) ?_; (with_reducible refine (colophonref10_ends.calls kj14 a0 x6_1 t224 t225 t226 _ A33.out).mono ?_); rintro e w131 ⟨rfl, hb⟩; refine ⟨_, rfl, ?_⟩; have n0_ := Aside0.mk (Kd.R_below (by (with_reducible repeat (first | apply Kd.R_alloc | apply Kd.R_drewN | apply Kd.R_drew)); exact HO_222000.out) hb); have n1_ := Aside0.mk (blk_below (g := gb220) (o := .cells #[.slice none 0 0, .int .i64 x221001_1, .int .i64 x221002_1] 68 (0, 0)) (by (with_reducible repeat (first | refine blk_drewN ?_ _ | refine blk_drew ?_ | refine blk_alloc ?_ _)); exact BK220.out) hb); have n2_ := Aside0.mk (blk_below (g := gb221) (o := .cells #[u222000, .int .i64 x222001_1, .int .i64 x222002_1] 68 (0, 0)) (by (with_reducible repeat (first | refine blk_drewN ?_ _ | refine blk_drew ?_ | refine blk_alloc ?_ _)); exact BK221.out) hb); have n3_ := Aside0.mk (blk_below (g := gb222) (o := .cells #[.int .i64 x223000_1, .int .i64 x223001_1, .int .i64 x223002_1] 26 (0, 0)) (by (with_reducible repeat (first | refine blk_drewN ?_ _ | refine blk_drew ?_ | refine blk_alloc ?_ _)); exact BK222.out) hb); have n4_ := Aside0.mk (below_step (by repeat (first | (with_reducible first | exact HB.out | apply below_alloc | apply pw_below_drewN | apply below_drew1 | refine below_set ?_ GE220.out | refine below_set ?_ GE221.out | refine below_set ?_ GE222.out) | exact HB.out)) hb); clear HO_222000; clear BK220; clear BK221; clear BK222; clear HB; have HO_222000 := n0_; have BK220 := n1_; have BK221 := n2_; have BK222 := n3_; have HB := n4_; clear n0_ n1_ n2_ n3_ n4_; (try clear hb); (try clear hb2); (try clear hk); (try clear hi)) | ((with_reducible refine gate_dst (N := 8) rfl ?_); (try (refine gate_guard (by rfl) ?_; dsimp only)); refine box_event ?hg (N := 8) ?hd (cs := #[.int .i64 0, .int .i64 0]) (t := 90) ?hr ?_; (case hd => rfl); (case hg => rfl); (case hr => first | (go_simp; done) | (go_simp; rfl)); intro gb227 hg w132 hbox hb; have n0_ := Aside0.mk (Kd.R_below (by (with_reducible repeat (first | apply Kd.R_alloc | apply Kd.R_drewN | apply Kd.R_drew)); exact HO_222000.out) hb); have n1_ := Aside0.mk (blk_below (g := gb220) (o := .cells #[.slice none 0 0, .int .i64 x221001_1, .int .i64 x221002_1] 68 (0, 0)) (by (with_reducible repeat (first | refine blk_drewN ?_ _ | refine blk_drew ?_ | refine blk_alloc ?_ _)); exact BK220.out) hb); have n2_ := Aside0.mk (blk_below (g := gb221) (o := .cells #[u222000, .int .i64 x222001_1, .int .i64 x222002_1] 68 (0, 0)) (by (with_reducible repeat (first | refine blk_drewN ?_ _ | refine blk_drew ?_ | refine blk_alloc ?_ _)); exact BK221.out) hb); have n3_ := Aside0.mk (blk_below (g := gb222) (o := .cells #[.int .i64 x223000_1, .int .i64 x223001_1, .int .i64 x223002_1] 26 (0, 0)) (by (with_reducible repeat (first | refine blk_drewN ?_ _ | refine blk_drew ?_ | refine blk_alloc ?_ _)); exact BK222.out) hb); have n4_ := Aside0.mk (below_step (by repeat (first | (with_reducible first | exact HB.out | apply below_alloc | apply pw_below_drewN | apply below_drew1 | refine below_set ?_ GE220.out | refine below_set ?_ GE221.out | refine below_set ?_ GE222.out) | exact HB.out)) hb); have n5_ := Aside0.mk (hbox); have n6_ := Aside0.mk ((by rw [hg]; exact (below_size (by repeat (first | (with_reducible first | exact HB.out | apply below_alloc | apply pw_below_drewN | apply below_drew1 | refine below_set ?_ GE220.out | refine below_set ?_ GE221.out | refine below_set ?_ GE222.out) | exact HB.out))) : w.heap.size ≤ gb227)); have n7_ := Aside0.mk ((by rw [hg]; exact (below_size (by repeat (first | (with_reducible first | exact HB.out | apply below_alloc | apply pw_below_drewN | apply below_drew1 | refine below_set ?_ GE220.out | refine below_set ?_ GE221.out | refine below_set ?_ GE222.out) | exact HB.out))) : w.heap.size ≤ gb227)); have n8_ := Aside0.mk ((by rw [hg]; exact Nat.ne_of_lt (blk_lt (g := gb220) (o := .cells #[.slice none 0 0, .int .i64 x221001_1, .int .i64 x221002_1] 68 (0, 0)) (by (with_reducible repeat (first | refine blk_drewN ?_ _ | refine blk_drew ?_ | refine blk_alloc ?_ _)); exact BK220.out)) : gb220 ≠ gb227)); have n9_ := Aside0.mk ((by rw [hg]; exact Nat.ne_of_gt (blk_lt (g := gb220) (o := .cells #[.slice none 0 0, .int .i64 x221001_1, .int .i64 x221002_1] 68 (0, 0)) (by (with_reducible repeat (first | refine blk_drewN ?_ _ | refine blk_drew ?_ | refine blk_alloc ?_ _)); exact BK220.out)) : gb227 ≠ gb220)); have n10_ := Aside0.mk ((by rw [hg]; exact Nat.ne_of_lt (blk_lt (g := gb221) (o := .cells #[u222000, .int .i64 x222001_1, .int .i64 x222002_1] 68 (0, 0)) (by (with_reducible repeat (first | refine blk_drewN ?_ _ | refine blk_drew ?_ | refine blk_alloc ?_ _)); exact BK221.out)) : gb221 ≠ gb227)); have n11_ := Aside0.mk ((by rw [hg]; exact Nat.ne_of_gt (blk_lt (g := gb221) (o := .cells #[u222000, .int .i64 x222001_1, .int .i64 x222002_1] 68 (0, 0)) (by (with_reducible repeat (first | refine blk_drewN ?_ _ | refine blk_drew ?_ | refine blk_alloc ?_ _)); exact BK221.out)) : gb227 ≠ gb221)); have n12_ := Aside0.mk ((by rw [hg]; exact Nat.ne_of_lt (blk_lt (g := gb222) (o := .cells #[.int .i64 x223000_1, .int .i64 x223001_1, .int .i64 x223002_1] 26 (0, 0)) (by (with_reducible repeat (first | refine blk_drewN ?_ _ | refine blk_drew ?_ | refine blk_alloc ?_ _)); exact BK222.out)) : gb222 ≠ gb227)); have n13_ := Aside0.mk ((by rw [hg]; exact Nat.ne_of_gt (blk_lt (g := gb222) (o := .cells #[.int .i64 x223000_1, .int .i64 x223001_1, .int .i64 x223002_1] 26 (0, 0)) (by (with_reducible repeat (first | refine blk_drewN ?_ _ | refine blk_drew ?_ | refine blk_alloc ?_ _)); exact BK222.out)) : gb227 ≠ gb222)); clear HO_222000; clear BK220; clear BK221; clear BK222; clear HB; have HO_222000 := n0_; have BK220 := n1_; have BK221 := n2_; have BK222 := n3_; have HB := n4_; have BK227 := n5_; have GW227 := n6_; have GE227 := n7_; have NB220_227 := n8_; have NB227_220 := n9_; have NB221_227 := n10_; have NB227_221 := n11_; have NB222_227 := n12_; have NB227_222 := n13_; clear n0_ n1_ n2_ n3_ n4_ n5_ n6_ n7_ n8_ n9_ n10_ n11_ n12_ n13_; clear hb hbox hg; have hnb133 := NB227_220.out; have hnc133 := NB220_227.out; have hnb134 := NB227_221.out; have hnc134 := NB221_227.out; have hnb135 := NB227_222.out; have hnc135 := NB222_227.out; have hcz136_0 : w132.cell? ⟨gb227, 0, none⟩ = some (.int .i64 0) := (blk_cell BK227.out 0).trans rfl; have hcz136_1 : w132.cell? ⟨gb227, 1, none⟩ = some (.int .i64 0) := (blk_cell BK227.out 1).trans rfl; have hfz136_0 := blk_frozen BK227.out 0; have hfz136_1 := blk_frozen BK227.out 1; have hnb137 := NB221_220.out; have hnc137 := NB220_221.out; have hnb138 := NB221_222.out; have hnc138 := NB222_221.out; have hcz139_0 : w132.cell? ⟨gb221, 0, none⟩ = some (u222000) := (blk_cell BK221.out 0).trans rfl; have hcz139_1 : w132.cell? ⟨gb221, 1, none⟩ = some (.int .i64 x222001_1) := (blk_cell BK221.out 1).trans rfl; have hcz139_2 : w132.cell? ⟨gb221, 2, none⟩ = some (.int .i64 x222002_1) := (blk_cell BK221.out 2).trans rfl; have hfz139_0 := blk_frozen BK221.out 0; have hfz139_1 := blk_frozen BK221.out 1; have hfz139_2 := blk_frozen BK221.out 2; obtain ⟨Ao140, co140, eo140⟩ := Kd.R_slice HO_222000.out; subst eo140; have hnb141 := NB220_222.out; have hnc141 := NB222_220.out; have hcz142_0 : w132.cell? ⟨gb220, 0, none⟩ = some (.slice none 0 0) := (blk_cell BK220.out 0).trans rfl; have hcz142_1 : w132.cell? ⟨gb220, 1, none⟩ = some (.int .i64 x221001_1) := (blk_cell BK220.out 1).trans rfl; have hcz142_2 : w132.cell? ⟨gb220, 2, none⟩ = some (.int .i64 x221002_1) := (blk_cell BK220.out 2).trans rfl; have hfz142_0 := blk_frozen BK220.out 0; have hfz142_1 := blk_frozen BK220.out 1; have hfz142_2 := blk_frozen BK220.out 2))
                        refine bodyPost_ret (results_cell_row rfl _ _ gb220 68 #[.slice Ao140 x222000_1.length co140, .int .i64 t226, .int .i64 t225] (0, 0) _ rfl (by (with_reducible repeat (first | refine blk_drewN ?_ _ | refine blk_drew ?_ | refine blk_alloc ?_ _)); refine blk_put (cs := #[.slice Ao140 x222000_1.length co140, .int .i64 t226, .int .i64 x221002_1]) ?_ 2 _ rfl; (with_reducible repeat (first | refine blk_drewN ?_ _ | refine blk_drew ?_ | refine blk_alloc ?_ _)); refine blk_put (cs := #[.slice Ao140 x222000_1.length co140, .int .i64 x221001_1, .int .i64 x221002_1]) ?_ 1 _ rfl; (with_reducible repeat (first | refine blk_drewN ?_ _ | refine blk_drew ?_ | refine blk_alloc ?_ _)); refine blk_put (cs := #[.slice none 0 0, .int .i64 x221001_1, .int .i64 x221002_1]) ?_ 0 _ rfl; (with_reducible repeat (first | refine blk_drewN ?_ _ | refine blk_drew ?_ | refine blk_alloc ?_ _)); refine blk_far ?_ NB220_221.out _; (with_reducible repeat (first | refine blk_drewN ?_ _ | refine blk_drew ?_ | refine blk_alloc ?_ _)); refine blk_far ?_ NB220_221.out _; (with_reducible repeat (first | refine blk_drewN ?_ _ | refine blk_drew ?_ | refine blk_alloc ?_ _)); refine blk_far ?_ NB220_227.out _; (with_reducible repeat (first | refine blk_drewN ?_ _ | refine blk_drew ?_ | refine blk_alloc ?_ _)); refine blk_far ?_ NB220_227.out _; (with_reducible repeat (first | refine blk_drewN ?_ _ | refine blk_drew ?_ | refine blk_alloc ?_ _)); exact BK220.out) Tryz.underlying68 rfl (by kernel_rfl)) rfl ?_
                        exact ⟨_, by first | rfl | (simp [errW_none, errW_some] <;> rfl) | (simp [*, errW_none, errW_some] <;> rfl), by (with_reducible repeat (first | apply Kd.R_alloc | apply Kd.R_drewN | apply Kd.R_drew)); exact Kd.R_mono (Kd.R_far (p := ⟨gb220, 2, none⟩) (Kd.R_far (p := ⟨gb220, 1, none⟩) (Kd.R_far (p := ⟨gb220, 0, none⟩) (Kd.R_far (p := ⟨gb221, 2, none⟩) (Kd.R_far (p := ⟨gb221, 1, none⟩) (Kd.R_far (p := ⟨gb227, 1, none⟩) (Kd.R_far (p := ⟨gb227, 0, none⟩) (Kd.R_types (Kd.R_types (Kd.R_types HO_222000.out BK227.out (by decide)) BK221.out (by decide)) BK220.out (by decide)) (fun _ hk => hk.1.1.2) (.int .i64 t225)) (fun _ hk => hk.1.1.2) (.int .i64 t226)) (fun _ hk => hk.1.2) (.int .i64 t226)) (fun _ hk => hk.1.2) (.int .i64 t225)) (fun _ hk => hk.2) (.slice Ao140 x222000_1.length co140)) (fun _ hk => hk.2) (.int .i64 t226)) (fun _ hk => hk.2) (.int .i64 t225)) (fun _ hk => trivial), by repeat (first | (with_reducible first | exact HB.out | apply below_alloc | apply pw_below_drewN | apply below_drew1 | refine below_set ?_ GE220.out | refine below_set ?_ GE221.out | refine below_set ?_ GE222.out | refine below_set ?_ GE227.out) | exact HB.out)⟩
        · rw [if_neg c11] at H
          exact absurd H (by simp)
      · rw [if_neg c10] at H
        have c10b0 : decide (x6_1 < (a0.size : Int)) = false := decide_eq_false c10
        clear c10
        simp only [Option.some.injEq, Prod.mk.injEq] at H
        obtain ⟨rfl, rfl, rfl⟩ := H
        have hnb143 := NB221_220.out
        have hnc143 := NB220_221.out
        have hnb144 := NB221_222.out
        have hnc144 := NB222_221.out
        have hcz145_0 : wr.cell? ⟨gb221, 0, none⟩ = some (u222000) := (blk_cell BK221.out 0).trans rfl
        have hcz145_1 : wr.cell? ⟨gb221, 1, none⟩ = some (.int .i64 x222001_1) := (blk_cell BK221.out 1).trans rfl
        have hcz145_2 : wr.cell? ⟨gb221, 2, none⟩ = some (.int .i64 x222002_1) := (blk_cell BK221.out 2).trans rfl
        have hfz145_0 := blk_frozen BK221.out 0
        have hfz145_1 := blk_frozen BK221.out 1
        have hfz145_2 := blk_frozen BK221.out 2
        obtain ⟨Ao146, co146, eo146⟩ := Kd.R_slice HO_222000.out
        subst eo146
        have hnb147 := NB220_222.out
        have hnc147 := NB222_220.out
        have hcz148_0 : wr.cell? ⟨gb220, 0, none⟩ = some (.slice none 0 0) := (blk_cell BK220.out 0).trans rfl
        have hcz148_1 : wr.cell? ⟨gb220, 1, none⟩ = some (.int .i64 x221001_1) := (blk_cell BK220.out 1).trans rfl
        have hcz148_2 : wr.cell? ⟨gb220, 2, none⟩ = some (.int .i64 x221002_1) := (blk_cell BK220.out 2).trans rfl
        have hfz148_0 := blk_frozen BK220.out 0
        have hfz148_1 := blk_frozen BK220.out 1
        have hfz148_2 := blk_frozen BK220.out 2
        go_wp2
        refine bodyPost_ret (results_cell_row rfl _ _ gb220 68 #[.slice Ao146 x222000_1.length co146, .int .i64 x222001_1, .int .i64 x222002_1] (0, 0) _ rfl (by (with_reducible repeat (first | refine blk_drewN ?_ _ | refine blk_drew ?_ | refine blk_alloc ?_ _)); refine blk_put (cs := #[.slice Ao146 x222000_1.length co146, .int .i64 x222001_1, .int .i64 x221002_1]) ?_ 2 _ rfl; (with_reducible repeat (first | refine blk_drewN ?_ _ | refine blk_drew ?_ | refine blk_alloc ?_ _)); refine blk_put (cs := #[.slice Ao146 x222000_1.length co146, .int .i64 x221001_1, .int .i64 x221002_1]) ?_ 1 _ rfl; (with_reducible repeat (first | refine blk_drewN ?_ _ | refine blk_drew ?_ | refine blk_alloc ?_ _)); refine blk_put (cs := #[.slice none 0 0, .int .i64 x221001_1, .int .i64 x221002_1]) ?_ 0 _ rfl; (with_reducible repeat (first | refine blk_drewN ?_ _ | refine blk_drew ?_ | refine blk_alloc ?_ _)); exact BK220.out) Tryz.underlying68 rfl (by kernel_rfl)) rfl ?_
        exact ⟨_, by first | rfl | (simp [errW_none, errW_some] <;> rfl) | (simp [*, errW_none, errW_some] <;> rfl), by (with_reducible repeat (first | apply Kd.R_alloc | apply Kd.R_drewN | apply Kd.R_drew)); exact Kd.R_mono (Kd.R_far (p := ⟨gb220, 2, none⟩) (Kd.R_far (p := ⟨gb220, 1, none⟩) (Kd.R_far (p := ⟨gb220, 0, none⟩) (Kd.R_types HO_222000.out BK220.out (by decide)) (fun _ hk => hk.2) (.slice Ao146 x222000_1.length co146)) (fun _ hk => hk.2) (.int .i64 x222001_1)) (fun _ hk => hk.2) (.int .i64 x222002_1)) (fun _ hk => trivial), by repeat (first | (with_reducible first | exact HB.out | apply below_alloc | apply pw_below_drewN | apply below_drew1 | refine below_set ?_ GE220.out | refine below_set ?_ GE221.out | refine below_set ?_ GE222.out) | exact HB.out)⟩

end Go.Proofs.YtdphhmigbbgjmaaGreatDoor.PScan
