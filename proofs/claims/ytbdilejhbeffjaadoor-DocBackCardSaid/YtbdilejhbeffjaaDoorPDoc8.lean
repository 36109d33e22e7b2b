/- Printed by a program of this session (wip/xprint.py) over the kit's print, with contracts of this session's own: doc, its reference, its laws. -/
import Derived.Test.YtbdilejhbeffjaaDoorPDoc0
import Derived.Test.YtbdilejhbeffjaaDoorPDoc4
import Derived.Test.YtbdilejhbeffjaaDoorPDoc6
import Derived.Test.YtbdilejhbeffjaaDoorPDoc7
namespace Go.Proofs.YtbdilejhbeffjaaDoor.PDoc
open Go.RowKit Go.Proofs.YtbdilejhbeffjaaDoorW.PrintWords Go.Proofs.YtbdilejhbeffjaaDoorW.PrintLast Go.Proofs.YtbdilejhbeffjaaDoorW.PrintMore
attribute [local go_sem] max2_int min2_int max_two min_two max_three min_three max_four min_four   -- for this text's walks alone
set_option linter.unusedVariables false
set_option linter.unusedSimpArgs false
attribute [local go_sem ↓] cutS_in

/-! ### colophonref07_number: function 81 -/
mutual
def colophonref07_number.l0 : Nat → ByteArray → Int → Int → Int → Option (Int)
  | 0, _, _, _, _ => none
  | k + 1, x0, x1, x5, x6 => if x6 < (x0.size : Int) then (colophonref07_number.j1 k x0 x1 x5 x6 (decide (x6 < (wrap64 (x1 + 4))))) else (colophonref07_number.j1 k x0 x1 x5 x6 false)
def colophonref07_number.j1 : Nat → ByteArray → Int → Int → Int → Bool → Option (Int)
  | 0, _, _, _, _, _ => none
  | k + 1, x0, x1, x5, x6, x17 => if x17 = true then (if 0 ≤ x6 then (if x6 < (x0.size : Int) then (if (bt x0 x6) ≥ 48 then (if (bt x0 x6) ≤ 57 then (colophonref07_number.l0 k x0 x1 (wrap64 ((wrap64 (10 * x5)) + (((bt x0 x6) - 48) % 256))) (wrap64 (x6 + 1))) else (colophonref07_number.l0 k x0 x1 x5 (wrap64 (x6 + 1)))) else (colophonref07_number.l0 k x0 x1 x5 (wrap64 (x6 + 1)))) else (none)) else (none)) else (some x5)
end
def colophonref07_number.f (k : Nat) (a0 : ByteArray) (a1 : Int) : Option (Int) := colophonref07_number.l0 k a0 a1 0 a1
theorem colophonref07_number.mono_l : ∀ k, (∀ y0 y1 y2 y3, LeO (colophonref07_number.l0 k y0 y1 y2 y3) (colophonref07_number.l0 (k + 1) y0 y1 y2 y3)) ∧ (∀ y0 y1 y2 y3 y4, LeO (colophonref07_number.j1 k y0 y1 y2 y3 y4) (colophonref07_number.j1 (k + 1) y0 y1 y2 y3 y4))
  | 0 => ⟨fun _ _ _ _ r h => by simp [colophonref07_number.l0] at h, fun _ _ _ _ _ r h => by simp [colophonref07_number.j1] at h⟩
  | k + 1 => by
    obtain ⟨ih0, ih1⟩ := colophonref07_number.mono_l k
    refine ⟨?_, ?_⟩
    · intro y0 y1 y2 y3
      unfold colophonref07_number.l0
      repeat' first
      | (with_reducible exact ih0 _ _ _ _)
      | (with_reducible exact ih1 _ _ _ _ _)
      | (with_reducible exact LeO.refl _)
      | (with_reducible exact LeO.none _)
      | (with_reducible refine LeO.ite ?_ ?_)
      | (with_reducible refine LeO.bind ?_ (fun _ => ?_))
      | exact ih0 _ _ _ _
      | exact ih1 _ _ _ _ _
      | exact LeO.none _
      | refine LeO.ite ?_ ?_
      | refine LeO.bind ?_ (fun _ => ?_)
    · intro y0 y1 y2 y3 y4
      unfold colophonref07_number.j1
      repeat' first
      | (with_reducible exact ih0 _ _ _ _)
      | (with_reducible exact ih1 _ _ _ _ _)
      | (with_reducible exact LeO.refl _)
      | (with_reducible exact LeO.none _)
      | (with_reducible refine LeO.ite ?_ ?_)
      | (with_reducible refine LeO.bind ?_ (fun _ => ?_))
      | exact ih0 _ _ _ _
      | exact ih1 _ _ _ _ _
      | exact LeO.none _
      | refine LeO.ite ?_ ?_
      | refine LeO.bind ?_ (fun _ => ?_)
theorem colophonref07_number.mono : ∀ a0 a1 k, LeO (colophonref07_number.f k a0 a1) (colophonref07_number.f (k + 1) a0 a1) := by
  intro a0 a1 k
  obtain ⟨ih0, ih1⟩ := colophonref07_number.mono_l k
  unfold colophonref07_number.f
  repeat' first
      | (with_reducible exact ih0 _ _ _ _)
      | (with_reducible exact ih1 _ _ _ _ _)
      | (with_reducible exact LeO.refl _)
      | (with_reducible exact LeO.none _)
      | (with_reducible refine LeO.ite ?_ ?_)
      | (with_reducible refine LeO.bind ?_ (fun _ => ?_))
      | exact ih0 _ _ _ _
      | exact ih1 _ _ _ _ _
      | exact LeO.none _
      | refine LeO.ite ?_ ?_
      | refine LeO.bind ?_ (fun _ => ?_)
set_option maxHeartbeats 8000000 in
set_option maxRecDepth 100000 in
theorem colophonref07_number.calls (k : Nat) (a0 : ByteArray) (a1 : Int) (r : Int) (w : World) (h : colophonref07_number.f k a0 a1 = some r) :
    Calls Tryd.prog 81 #[.string a0, .int .i64 a1] w fun e w' => e = .returned (.int .i64 r) ∧ Drawn0 w w' := by
  have H : (colophonref07_number.l0 k a0 a1 0 a1) = some r := h
  clear h
  have H' := Aside0.mk H
  clear H
  go_enter Tryd.func81, Tryd.ntmps81
  go_wp2
  go_loopg [5, 6] k (fun kq v5 v6 w' => ∃ (x5_1 : Int) (x6_1 : Int), v5 = .int .i64 x5_1 ∧ v6 = .int .i64 x6_1 ∧ Aside0 (colophonref07_number.l0 kq a0 a1 x5_1 x6_1 = some r) ∧ Aside0 (kq ≤ k) ∧ Drawn0 w w')
  case atStart => exact ⟨(0), (a1), (by first | rfl | (simp; done) | (simp [*]; done)), (by first | rfl | (simp; done) | (simp [*]; done)), H', ⟨Nat.le_refl _⟩, by repeat (first | exact Drawn0.refl _ | apply Drawn0.step)⟩
  case round =>
    clear H'
    try clear p2
    obtain ⟨x5_1, x6_1, rfl, rfl, HA, HK1, ⟨m1, rfl⟩⟩ := hrel
    cases gk with
    | zero => exact absurd HA.out (by simp [colophonref07_number.l0])
    | succ k1 =>
      have H := HA.out
      clear HA
      simp only [colophonref07_number.l0] at H
      have HC3 := Aside0.mk H
      clear H
      go_upto_region 3 with (fail)
      go_cut [17] (fun v17 wc => ∃ (kq : Nat) (x17_2 : Bool), v17 = .bool x17_2 ∧ Aside0 (colophonref07_number.j1 kq a0 a1 x5_1 x6_1 x17_2 = some r) ∧ Aside0 (kq ≤ k1) ∧ Drawn0 w wc)
      case first =>
        have H := HC3.out
        clear HC3
        by_cases c4 : x6_1 < (a0.size : Int)
        · rw [if_pos c4] at H
          have c4b0 : decide (x6_1 < (a0.size : Int)) = true := decide_eq_true c4
          clear c4
          (first | rw [c4b0] | (simp only [i64_w, i32_w]; rw [c4b0]) | skip)
          have H' := Aside0.mk H
          clear H
          go_wp2
          go_meet
          case rel => exact ⟨_, (decide (x6_1 < (wrap64 (a1 + 4)))), (by first | rfl | (simp; done) | (simp [*]; done)), H', ⟨by have := HK1.out; first | omega | exact Nat.le_refl _⟩, by repeat (first | exact Drawn0.refl _ | apply Drawn0.step)⟩
        · rw [if_neg c4] at H
          have c4b0 : decide (x6_1 < (a0.size : Int)) = false := decide_eq_false c4
          clear c4
          (first | rw [c4b0] | (simp only [i64_w, i32_w]; rw [c4b0]) | skip)
          have H' := Aside0.mk H
          clear H
          go_wp2
          go_meet
          case rel => exact ⟨_, (false), (by first | rfl | (simp; done) | (simp [*]; done)), H', ⟨by have := HK1.out; first | omega | exact Nat.le_refl _⟩, by repeat (first | exact Drawn0.refl _ | apply Drawn0.step)⟩
      case rest =>
        clear HC3
        try clear p2
        try clear c4
        try clear c4b0
        try clear p2
        obtain ⟨kq, x17_2, rfl, HA, HJ2, ⟨mc2, rfl⟩⟩ := hcut
        cases kq with
        | zero => exact absurd HA.out (by simp [colophonref07_number.j1])
        | succ kj2 =>
          have H := HA.out
          clear HA
          simp only [colophonref07_number.j1] at H
          by_cases c5 : x17_2 = true
          · subst c5
            have H1 : (if 0 ≤ x6_1 then (if x6_1 < (a0.size : Int) then (if (bt a0 x6_1) ≥ 48 then (if (bt a0 x6_1) ≤ 57 then (colophonref07_number.l0 kj2 a0 a1 (wrap64 ((wrap64 (10 * x5_1)) + (((bt a0 x6_1) - 48) % 256))) (wrap64 (x6_1 + 1))) else (colophonref07_number.l0 kj2 a0 a1 x5_1 (wrap64 (x6_1 + 1)))) else (colophonref07_number.l0 kj2 a0 a1 x5_1 (wrap64 (x6_1 + 1)))) else (none)) else (none)) = some r := by rw [if_pos rfl] at H; exact H
            clear H
            have H := H1
            clear H1
            by_cases c6 : 0 ≤ x6_1
            · rw [if_pos c6] at H
              have c6b0 : decide (0 ≤ x6_1) = true := decide_eq_true c6
              clear c6
              by_cases c7 : x6_1 < (a0.size : Int)
              · rw [if_pos c7] at H
                have c7b0 : decide (x6_1 < (a0.size : Int)) = true := decide_eq_true c7
                clear c7
                by_cases c9 : (bt a0 x6_1) ≥ 48
                · rw [if_pos c9] at H
                  have c9b0 : decide (48 ≤ (bt a0 x6_1)) = true := decide_eq_true c9
                  clear c9
                  by_cases c11 : (bt a0 x6_1) ≤ 57
                  · rw [if_pos c11] at H
                    have c11b0 : decide ((bt a0 x6_1) ≤ 57) = true := decide_eq_true c11
                    clear c11
                    have H' := Aside0.mk H
                    clear H
                    have p8 : 0 ≤ (x6_1 : Int) := of_decide_eq_true (by first | (with_reducible assumption) | assumption)
                    have q8 : x6_1 < (a0.size : Int) := of_decide_eq_true (by first | (with_reducible assumption) | assumption)
                    have hx8 := bt_at a0 x6_1
                    replace p8 := eq_true p8
                    replace q8 := eq_true q8
                    have p10 : 0 ≤ (x6_1 : Int) := of_decide_eq_true (by first | (with_reducible assumption) | assumption)
                    have q10 : x6_1 < (a0.size : Int) := of_decide_eq_true (by first | (with_reducible assumption) | assumption)
                    have hx10 := bt_at a0 x6_1
                    replace p10 := eq_true p10
                    replace q10 := eq_true q10
                    have p12 : 0 ≤ (x6_1 : Int) := of_decide_eq_true (by first | (with_reducible assumption) | assumption)
                    have q12 : x6_1 < (a0.size : Int) := of_decide_eq_true (by first | (with_reducible assumption) | assumption)
                    have hx12 := bt_at a0 x6_1
                    replace p12 := eq_true p12
                    replace q12 := eq_true q12
                    go_wp2
                    go_roundg kj2
                    case measure => have := HK1.out; have := HJ2.out; omega
                    case rel => exact ⟨(wrap64 ((wrap64 (10 * x5_1)) + (((bt a0 x6_1) - 48) % 256))), (wrap64 (x6_1 + 1)), (by first | rfl | (simp; done) | (simp [*]; done)), (by first | rfl | (simp; done) | (simp [*]; done)), H', ⟨by have := HK1.out; have := HJ2.out; omega⟩, by repeat (first | exact Drawn0.refl _ | apply Drawn0.step)⟩
                  · rw [if_neg c11] at H
                    have c11b0 : decide ((bt a0 x6_1) ≤ 57) = false := decide_eq_false c11
                    clear c11
                    have H' := Aside0.mk H
                    clear H
                    have p8 : 0 ≤ (x6_1 : Int) := of_decide_eq_true (by first | (with_reducible assumption) | assumption)
                    have q8 : x6_1 < (a0.size : Int) := of_decide_eq_true (by first | (with_reducible assumption) | assumption)
                    have hx8 := bt_at a0 x6_1
                    replace p8 := eq_true p8
                    replace q8 := eq_true q8
                    have p10 : 0 ≤ (x6_1 : Int) := of_decide_eq_true (by first | (with_reducible assumption) | assumption)
                    have q10 : x6_1 < (a0.size : Int) := of_decide_eq_true (by first | (with_reducible assumption) | assumption)
                    have hx10 := bt_at a0 x6_1
                    replace p10 := eq_true p10
                    replace q10 := eq_true q10
                    go_wp2
                    go_roundg kj2
                    case measure => have := HK1.out; have := HJ2.out; omega
                    case rel => exact ⟨(x5_1), (wrap64 (x6_1 + 1)), (by first | rfl | (simp; done) | (simp [*]; done)), (by first | rfl | (simp; done) | (simp [*]; done)), H', ⟨by have := HK1.out; have := HJ2.out; omega⟩, by repeat (first | exact Drawn0.refl _ | apply Drawn0.step)⟩
                · rw [if_neg c9] at H
                  have c9b0 : decide (48 ≤ (bt a0 x6_1)) = false := decide_eq_false c9
                  clear c9
                  have H' := Aside0.mk H
                  clear H
                  have p8 : 0 ≤ (x6_1 : Int) := of_decide_eq_true (by first | (with_reducible assumption) | assumption)
                  have q8 : x6_1 < (a0.size : Int) := of_decide_eq_true (by first | (with_reducible assumption) | assumption)
                  have hx8 := bt_at a0 x6_1
                  replace p8 := eq_true p8
                  replace q8 := eq_true q8
                  go_wp2
                  go_roundg kj2
                  case measure => have := HK1.out; have := HJ2.out; omega
                  case rel => exact ⟨(x5_1), (wrap64 (x6_1 + 1)), (by first | rfl | (simp; done) | (simp [*]; done)), (by first | rfl | (simp; done) | (simp [*]; done)), H', ⟨by have := HK1.out; have := HJ2.out; omega⟩, by repeat (first | exact Drawn0.refl _ | apply Drawn0.step)⟩
              · rw [if_neg c7] at H
                exact absurd H (by simp)
            · rw [if_neg c6] at H
              exact absurd H (by simp)
          · replace c5 := Bool.eq_false_iff.mpr c5
            subst c5
            have H1 : (some x5_1) = some r := by rw [if_neg (show ¬ (false = true) by decide)] at H; exact H
            clear H
            have H := H1
            clear H1
            obtain rfl := Option.some.inj H
            go_wp2
            go_ret
            exact ⟨by first | rfl | (simp; done) | (simp [*]; done), by repeat (first | exact Drawn0.refl _ | apply Drawn0.step)⟩

/-! ### colophonref07_piece: function 50 -/
mutual
def colophonref07_piece.j0 : Nat → ByteArray → List (S33) → Option (Int × ByteArray × Int × Int × Bool × Bool)
  | 0, _, _ => none
  | k + 1, x0, x4 => if (x0.size : Int) > 6 then ((colophonref07_number.f k x0 6).bind fun t258 => ((some (([(⟨3, (⟨#[]⟩ : ByteArray), t258, 0, false⟩ : S33), (⟨6, (⟨#[]⟩ : ByteArray), 0, t258, false⟩ : S33), (⟨6, (⟨#[]⟩ : ByteArray), 0, t258, true⟩ : S33)] : List (S33)) : List (S33))).bind fun y259 => (if x4.length + y259.length < 2932031007402 then (colophonref07_piece.j1 k x0 (x4 ++ y259)) else (none)))) else (colophonref07_piece.j1 k x0 x4)
def colophonref07_piece.j1 : Nat → ByteArray → List (S33) → Option (Int × ByteArray × Int × Int × Bool × Bool)
  | 0, _, _ => none
  | k + 1, x0, x4 => colophonref07_piece.l0 k x0 x4 0
def colophonref07_piece.l0 : Nat → ByteArray → List (S33) → Int → Option (Int × ByteArray × Int × Int × Bool × Bool)
  | 0, _, _, _ => none
  | k + 1, x0, x4, x6 => if x6 < (x4.length : Int) then (if 0 ≤ x6 then ((colophonref07_Right.f ((rd_T33 x4 x6).f0) ((rd_T33 x4 x6).f1) ((rd_T33 x4 x6).f2) ((rd_T33 x4 x6).f3) ((rd_T33 x4 x6).f4)).bind fun t266 => (if t266 = true then ((colophonref07_Line.f k ((rd_T33 x4 x6).f0) ((rd_T33 x4 x6).f1) ((rd_T33 x4 x6).f2) ((rd_T33 x4 x6).f3) ((rd_T33 x4 x6).f4)).bind fun t268 => (if t268.toList = x0.toList then (some ((rd_T33 x4 x6).f0, (rd_T33 x4 x6).f1, (rd_T33 x4 x6).f2, (rd_T33 x4 x6).f3, (rd_T33 x4 x6).f4, true)) else (colophonref07_piece.l0 k x0 x4 (wrap64 (x6 + 1))))) else (colophonref07_piece.l0 k x0 x4 (wrap64 (x6 + 1))))) else (none)) else (some (0, (⟨#[]⟩ : ByteArray), 0, 0, false, false))
end
def colophonref07_piece.f (k : Nat) (a0 : ByteArray) : Option (Int × ByteArray × Int × Int × Bool × Bool) := (some (([(⟨2, (⟨#[]⟩ : ByteArray), 0, 0, false⟩ : S33), (⟨4, (⟨#[]⟩ : ByteArray), 0, 0, false⟩ : S33), (⟨5, (⟨#[]⟩ : ByteArray), 0, 0, false⟩ : S33), (⟨7, (⟨#[]⟩ : ByteArray), 0, 0, false⟩ : S33)] : List (S33)) : List (S33))).bind fun y251 => (if (a0.size : Int) > 5 then (if 5 ≤ (a0.size : Int) then ((colophonref07_plain.f k (cutS a0 5 a0.size)).bind fun t254 => (if y251.length < 2932031007402 then (colophonref07_piece.j0 k a0 (y251 ++ [(⟨1, t254, 0, 0, false⟩ : S33)])) else (none))) else (none)) else (colophonref07_piece.j0 k a0 y251))
theorem colophonref07_piece.mono_l : ∀ k, (∀ y0 y1, LeO (colophonref07_piece.j0 k y0 y1) (colophonref07_piece.j0 (k + 1) y0 y1)) ∧ (∀ y0 y1, LeO (colophonref07_piece.j1 k y0 y1) (colophonref07_piece.j1 (k + 1) y0 y1)) ∧ (∀ y0 y1 y2, LeO (colophonref07_piece.l0 k y0 y1 y2) (colophonref07_piece.l0 (k + 1) y0 y1 y2))
  | 0 => ⟨fun _ _ r h => by simp [colophonref07_piece.j0] at h, fun _ _ r h => by simp [colophonref07_piece.j1] at h, fun _ _ _ r h => by simp [colophonref07_piece.l0] at h⟩
  | k + 1 => by
    obtain ⟨ih0, ih1, ih2⟩ := colophonref07_piece.mono_l k
    refine ⟨?_, ?_, ?_⟩
    · intro y0 y1
      unfold colophonref07_piece.j0
      repeat' first
      | (with_reducible exact ih0 _ _)
      | (with_reducible exact ih1 _ _)
      | (with_reducible exact ih2 _ _ _)
      | (with_reducible exact colophonref07_Line.mono _ _ _ _ _ _)
      | (with_reducible exact colophonref07_number.mono _ _ _)
      | (with_reducible exact colophonref07_plain.mono _ _)
      | (with_reducible exact LeO.refl _)
      | (with_reducible exact LeO.none _)
      | (with_reducible refine LeO.ite ?_ ?_)
      | (with_reducible refine LeO.bind ?_ (fun _ => ?_))
      | exact ih0 _ _
      | exact ih1 _ _
      | exact ih2 _ _ _
      | exact colophonref07_Line.mono _ _ _ _ _ _
      | exact colophonref07_number.mono _ _ _
      | exact colophonref07_plain.mono _ _
      | exact LeO.none _
      | refine LeO.ite ?_ ?_
      | refine LeO.bind ?_ (fun _ => ?_)
    · intro y0 y1
      unfold colophonref07_piece.j1
      repeat' first
      | (with_reducible exact ih0 _ _)
      | (with_reducible exact ih1 _ _)
      | (with_reducible exact ih2 _ _ _)
      | (with_reducible exact colophonref07_Line.mono _ _ _ _ _ _)
      | (with_reducible exact colophonref07_number.mono _ _ _)
      | (with_reducible exact colophonref07_plain.mono _ _)
      | (with_reducible exact LeO.refl _)
      | (with_reducible exact LeO.none _)
      | (with_reducible refine LeO.ite ?_ ?_)
      | (with_reducible refine LeO.bind ?_ (fun _ => ?_))
      | exact ih0 _ _
      | exact ih1 _ _
      | exact ih2 _ _ _
      | exact colophonref07_Line.mono _ _ _ _ _ _
      | exact colophonref07_number.mono _ _ _
      | exact colophonref07_plain.mono _ _
      | exact LeO.none _
      | refine LeO.ite ?_ ?_
      | refine LeO.bind ?_ (fun _ => ?_)
    · intro y0 y1 y2
      unfold colophonref07_piece.l0
      repeat' first
      | (with_reducible exact ih0 _ _)
      | (with_reducible exact ih1 _ _)
      | (with_reducible exact ih2 _ _ _)
      | (with_reducible exact colophonref07_Line.mono _ _ _ _ _ _)
      | (with_reducible exact colophonref07_number.mono _ _ _)
      | (with_reducible exact colophonref07_plain.mono _ _)
      | (with_reducible exact LeO.refl _)
      | (with_reducible exact LeO.none _)
      | (with_reducible refine LeO.ite ?_ ?_)
      | (with_reducible refine LeO.bind ?_ (fun _ => ?_))
      | exact ih0 _ _
      | exact ih1 _ _
      | exact ih2 _ _ _
      | exact colophonref07_Line.mono _ _ _ _ _ _
      | exact colophonref07_number.mono _ _ _
      | exact colophonref07_plain.mono _ _
      | exact LeO.none _
      | refine LeO.ite ?_ ?_
      | refine LeO.bind ?_ (fun _ => ?_)
theorem colophonref07_piece.mono : ∀ a0 k, LeO (colophonref07_piece.f k a0) (colophonref07_piece.f (k + 1) a0) := by
  intro a0 k
  obtain ⟨ih0, ih1, ih2⟩ := colophonref07_piece.mono_l k
  unfold colophonref07_piece.f
  repeat' first
      | (with_reducible exact ih0 _ _)
      | (with_reducible exact ih1 _ _)
      | (with_reducible exact ih2 _ _ _)
      | (with_reducible exact colophonref07_Line.mono _ _ _ _ _ _)
      | (with_reducible exact colophonref07_number.mono _ _ _)
      | (with_reducible exact colophonref07_plain.mono _ _)
      | (with_reducible exact LeO.refl _)
      | (with_reducible exact LeO.none _)
      | (with_reducible refine LeO.ite ?_ ?_)
      | (with_reducible refine LeO.bind ?_ (fun _ => ?_))
      | exact ih0 _ _
      | exact ih1 _ _
      | exact ih2 _ _ _
      | exact colophonref07_Line.mono _ _ _ _ _ _
      | exact colophonref07_number.mono _ _ _
      | exact colophonref07_plain.mono _ _
      | exact LeO.none _
      | refine LeO.ite ?_ ?_
      | refine LeO.bind ?_ (fun _ => ?_)
set_option maxHeartbeats 8000000 in
set_option maxRecDepth 100000 in
theorem colophonref07_piece.calls (k : Nat) (a0 : ByteArray) (r1 : Int) (r2 : ByteArray) (r3 : Int) (r4 : Int) (r5 : Bool) (r6 : Bool) (w : World) (h : colophonref07_piece.f k a0 = some (r1, r2, r3, r4, r5, r6)) :
    Calls Tryd.prog 50 #[.string a0] w fun e w' => e = .returned (.tuple #[.agg #[.int .u8 r1, .string r2, .int .i64 r3, .int .i64 r4, .bool r5], .bool r6]) ∧ Below w.heap.size w w' := by
  have hu33 := Tryd.underlying33
  have HB := Aside0.mk (Below.refl w.heap.size w)
  have H : ((some (([(⟨2, (⟨#[]⟩ : ByteArray), 0, 0, false⟩ : S33), (⟨4, (⟨#[]⟩ : ByteArray), 0, 0, false⟩ : S33), (⟨5, (⟨#[]⟩ : ByteArray), 0, 0, false⟩ : S33), (⟨7, (⟨#[]⟩ : ByteArray), 0, 0, false⟩ : S33)] : List (S33)) : List (S33))).bind fun y251 => (if (a0.size : Int) > 5 then (if 5 ≤ (a0.size : Int) then ((colophonref07_plain.f k (cutS a0 5 a0.size)).bind fun t254 => (if y251.length < 2932031007402 then (colophonref07_piece.j0 k a0 (y251 ++ [(⟨1, t254, 0, 0, false⟩ : S33)])) else (none))) else (none)) else (colophonref07_piece.j0 k a0 y251))) = some (r1, r2, r3, r4, r5, r6) := h
  clear h
  obtain ⟨y251, hy251⟩ : ∃ y_ : List (S33), y_ = (([(⟨2, (⟨#[]⟩ : ByteArray), 0, 0, false⟩ : S33), (⟨4, (⟨#[]⟩ : ByteArray), 0, 0, false⟩ : S33), (⟨5, (⟨#[]⟩ : ByteArray), 0, 0, false⟩ : S33), (⟨7, (⟨#[]⟩ : ByteArray), 0, 0, false⟩ : S33)] : List (S33))) := ⟨_, rfl⟩
  replace H : (if (a0.size : Int) > 5 then (if 5 ≤ (a0.size : Int) then ((colophonref07_plain.f k (cutS a0 5 a0.size)).bind fun t254 => (if y251.length < 2932031007402 then (colophonref07_piece.j0 k a0 (y251 ++ [(⟨1, t254, 0, 0, false⟩ : S33)])) else (none))) else (none)) else (colophonref07_piece.j0 k a0 y251)) = some (r1, r2, r3, r4, r5, r6) := by first | (rw [hy251]; with_reducible exact H) | (have H2_ := (Option.bind_some _ _).symm.trans H; rw [hy251]; with_reducible exact H2_) | (have H2_ := (Option.bind_some _ _).symm.trans H; with_reducible exact H2_) | with_reducible exact H | (rw [hy251]; exact H) | exact H
  have Ny251 := Aside0.mk hy251
  clear hy251
  have HC2 := Aside0.mk H
  clear H
  go_enter Tryd.func50, Tryd.ntmps50
  go_upto_if 14 with (first | ((with_reducible refine gate_dst (N := 2) rfl ?_); refine box_event ?hg (N := 2) ?hd (cs := #[.int .u8 0, .string (⟨#[]⟩ : ByteArray), .int .i64 0, .int .i64 0, .bool false]) (t := 33) ?hr ?_; (case hd => rfl); (case hg => rfl); (case hr => first | (go_simp; done) | (go_simp; rfl)); intro gb250 hg w3 hbox hb; have n0_ := Aside0.mk (below_step (by repeat (first | (with_reducible first | exact HB.out | apply below_alloc | apply pw_below_drewN | apply below_drew1) | exact HB.out)) hb); have n1_ := Aside0.mk (hbox); have n2_ := Aside0.mk ((by rw [hg]; exact (below_size (by repeat (first | (with_reducible first | exact HB.out | apply below_alloc | apply pw_below_drewN | apply below_drew1) | exact HB.out))) : w.heap.size ≤ gb250)); have n3_ := Aside0.mk ((by rw [hg]; exact (below_size (by repeat (first | (with_reducible first | exact HB.out | apply below_alloc | apply pw_below_drewN | apply below_drew1) | exact HB.out))) : w.heap.size ≤ gb250)); clear HB; have HB := n0_; have BK250 := n1_; have GW250 := n2_; have GE250 := n3_; clear n0_ n1_ n2_ n3_; clear hb hbox hg) | ((with_reducible refine gate_dst (N := 11) rfl ?_); refine Kd.R_lit k33 _ 33 ?hg (N := 11) ?hd (xs := ([(⟨2, (⟨#[]⟩ : ByteArray), 0, 0, false⟩ : S33), (⟨4, (⟨#[]⟩ : ByteArray), 0, 0, false⟩ : S33), (⟨5, (⟨#[]⟩ : ByteArray), 0, 0, false⟩ : S33), (⟨7, (⟨#[]⟩ : ByteArray), 0, 0, false⟩ : S33)] : List (S33))) (inner := [.int .u8 2, .string (⟨#[]⟩ : ByteArray), .int .i64 0, .int .i64 0, .bool false, .int .u8 4, .string (⟨#[]⟩ : ByteArray), .int .i64 0, .int .i64 0, .bool false, .int .u8 5, .string (⟨#[]⟩ : ByteArray), .int .i64 0, .int .i64 0, .bool false, .int .u8 7, .string (⟨#[]⟩ : ByteArray), .int .i64 0, .int .i64 0, .bool false]) (ok := fun _ => True) (okp := fun _ => True) ?hr ?hp (fun _ hk => hk) trivial (Below.refl _ _) (Nat.le_refl _) (by simp) ?_; (case hd => rfl); (case hg => rfl); (case hr => first | (go_simp; done) | (go_simp; rfl)); (case hp => exact (Reps.c5 (show Kd.M k33 _ _ _ (⟨2, (⟨#[]⟩ : ByteArray), 0, 0, false⟩ : S33) [.int .u8 2, .string (⟨#[]⟩ : ByteArray), .int .i64 0, .int .i64 0, .bool false] from (k33_mkM _ _ _ (⟨2, (⟨#[]⟩ : ByteArray), 0, 0, false⟩ : S33) )) (Reps.c5 (show Kd.M k33 _ _ _ (⟨4, (⟨#[]⟩ : ByteArray), 0, 0, false⟩ : S33) [.int .u8 4, .string (⟨#[]⟩ : ByteArray), .int .i64 0, .int .i64 0, .bool false] from (k33_mkM _ _ _ (⟨4, (⟨#[]⟩ : ByteArray), 0, 0, false⟩ : S33) )) (Reps.c5 (show Kd.M k33 _ _ _ (⟨5, (⟨#[]⟩ : ByteArray), 0, 0, false⟩ : S33) [.int .u8 5, .string (⟨#[]⟩ : ByteArray), .int .i64 0, .int .i64 0, .bool false] from (k33_mkM _ _ _ (⟨5, (⟨#[]⟩ : ByteArray), 0, 0, false⟩ : S33) )) (Reps.c5 (show Kd.M k33 _ _ _ (⟨7, (⟨#[]⟩ : ByteArray), 0, 0, false⟩ : S33) [.int .u8 7, .string (⟨#[]⟩ : ByteArray), .int .i64 0, .int .i64 0, .bool false] from (k33_mkM _ _ _ (⟨7, (⟨#[]⟩ : ByteArray), 0, 0, false⟩ : S33) )) (Reps.none _ _)))))); intro v252 w4 ho5 hb hg_ hnew_; clear hg_ hnew_; (first | rw [← Ny251.out] at ho5 | (simp only [Int.reduceToNat] at ho5; rw [← Ny251.out] at ho5)); have n0_ := Aside0.mk (Kd.R_lower (Kd.R_newB ho5 (g := gb250) (o := .cells #[.int .u8 0, .string (⟨#[]⟩ : ByteArray), .int .i64 0, .int .i64 0, .bool false] 33 (0, 0)) (by (with_reducible repeat (first | refine blk_drewN ?_ _ | refine blk_drew ?_ | refine blk_alloc ?_ _)); exact BK250.out)) (below_size (by repeat (first | (with_reducible first | exact HB.out | apply below_alloc | apply pw_below_drewN | apply below_drew1 | refine below_set ?_ GE250.out) | exact HB.out)))); have n1_ := Aside0.mk (blk_below (g := gb250) (o := .cells #[.int .u8 0, .string (⟨#[]⟩ : ByteArray), .int .i64 0, .int .i64 0, .bool false] 33 (0, 0)) (by (with_reducible repeat (first | refine blk_drewN ?_ _ | refine blk_drew ?_ | refine blk_alloc ?_ _)); exact BK250.out) hb); have n2_ := Aside0.mk (below_step (by repeat (first | (with_reducible first | exact HB.out | apply below_alloc | apply pw_below_drewN | apply below_drew1 | refine below_set ?_ GE250.out) | exact HB.out)) hb); clear BK250; clear HB; have HO253 := n0_; have BK250 := n1_; have HB := n2_; clear n0_ n1_ n2_; clear hb ho5))
  (try simp only [Act.put, List.setIfInBounds_toArray, List.set_cons_zero, List.set_cons_succ])
  go_cut [4] (fun v4 wc => ∃ (kq : Nat) (x4_1 : List (S33)), Aside0 (colophonref07_piece.j0 kq a0 x4_1 = some (r1, r2, r3, r4, r5, r6)) ∧ Aside0 (kq ≤ k) ∧ Aside0 (Kd.R k33 33 wc w.heap.size (fun k_ => k_ ≠ gb250) v4 x4_1) ∧ Aside0 (wc.heap[gb250]? = some (.cells #[.int .u8 0, .string (⟨#[]⟩ : ByteArray), .int .i64 0, .int .i64 0, .bool false] 33 (0, 0))) ∧ Aside0 (Below w.heap.size w wc))
  case first =>
    have H := HC2.out
    clear HC2
    by_cases c6 : (a0.size : Int) > 5
    · rw [if_pos c6] at H
      have c6b0 : decide (5 < (a0.size : Int)) = true := decide_eq_true c6
      have c6b1 : decide (5 < a0.size) = true := decide_eq_true (by omega)
      clear c6
      (first | rw [c6b0] | (simp only [i64_w, i32_w]; rw [c6b0]) | skip)
      by_cases c7 : 5 ≤ (a0.size : Int)
      · rw [if_pos c7] at H
        have c7b0 := eq_true c7
        have c7b1 : decide (5 ≤ (a0.size : Int)) = true := decide_eq_true c7
        clear c7
        replace H := Option.bind_eq_some_iff.mp H
        obtain ⟨t254, A80, H⟩ := H
        replace H : (if y251.length < 2932031007402 then (colophonref07_piece.j0 k a0 (y251 ++ [(⟨1, t254, 0, 0, false⟩ : S33)])) else (none)) = some (r1, r2, r3, r4, r5, r6) := H
        have A8 := Aside0.mk A80
        clear A80
        by_cases c9 : y251.length < 2932031007402
        · rw [if_pos c9] at H
          have LMc9 := Aside0.mk c9
          clear c9
          obtain ⟨y255, hy255⟩ : ∃ y_ : List (S33), y_ = (y251 ++ [(⟨1, t254, 0, 0, false⟩ : S33)]) := ⟨_, rfl⟩
          replace H : (colophonref07_piece.j0 k a0 y255) = some (r1, r2, r3, r4, r5, r6) := by first | (rw [hy255]; with_reducible exact H) | (have H2_ := (Option.bind_some _ _).symm.trans H; rw [hy255]; with_reducible exact H2_) | (have H2_ := (Option.bind_some _ _).symm.trans H; with_reducible exact H2_) | with_reducible exact H | (rw [hy255]; exact H) | exact H
          have Ny255 := Aside0.mk hy255
          clear hy255
          have H' := Aside0.mk H
          clear H
          go_wp2_with (first | ((with_reducible refine gate_callee (f := 80) rfl ?_); refine goesL_ (some 18) rfl rfl Tryd.func80 (by kernel_rfl) rfl #[.string (cutS a0 5 a0.size)] rfl (by (try simp only [List.map_toArray, List.map_cons, List.map_nil]); first | done | rfl | (simp only [List.length_drop, List.length_take]; rfl)) ?_; (with_reducible refine (colophonref07_plain.calls k (cutS a0 5 a0.size) t254 _ A8.out).mono ?_); rintro e w10 ⟨rfl, hb⟩; refine ⟨_, rfl, ?_⟩; have n0_ := Aside0.mk (Kd.R_below (by (with_reducible repeat (first | apply Kd.R_alloc | apply Kd.R_drewN | apply Kd.R_drew)); exact HO253.out) hb); have n1_ := Aside0.mk (blk_below (g := gb250) (o := .cells #[.int .u8 0, .string (⟨#[]⟩ : ByteArray), .int .i64 0, .int .i64 0, .bool false] 33 (0, 0)) (by (with_reducible repeat (first | refine blk_drewN ?_ _ | refine blk_drew ?_ | refine blk_alloc ?_ _)); exact BK250.out) hb); have n2_ := Aside0.mk (below_step (by repeat (first | (with_reducible first | exact HB.out | apply below_alloc | apply pw_below_drewN | apply below_drew1 | refine below_set ?_ GE250.out) | exact HB.out)) hb); clear HO253; clear BK250; clear HB; have HO253 := n0_; have BK250 := n1_; have HB := n2_; clear n0_ n1_ n2_; (try clear hb); (try clear hb2); (try clear hk); (try clear hi)) | ((with_reducible refine gate_builtin (b := .append) (xs := #[.tmp 15, .tmp 20]) rfl ?_); at_builtin; refine Kd.R_append k33 (w0 := w) w.heap.size rfl (.tmp 15) (.tmp 20) 23 33 (.agg #[(.int .u8 0), (.string ⟨#[]⟩), (.int .i64 0), (.int .i64 0), (.bool false)]) 48 rfl Tryd.underlying23 info33 rfl (by decide) (by omega) v252 y251 (⟨1, t254, 0, 0, false⟩ : S33) [.int .u8 1, .string t254, .int .i64 0, .int .i64 0, .bool false] (fun k_ => k_ ≠ gb250) (fun _ => False) rfl rfl ?aP (fun _ hk => hk.elim) ?aF ?aO ?aB ?aS ?aL ?_; (case aP => exact k33_mkM _ _ _ (⟨1, t254, 0, 0, false⟩ : S33)); (case aB => exact (by repeat (first | (with_reducible first | exact HB.out | apply below_alloc | apply pw_below_drewN | apply below_drew1 | refine below_set ?_ GE250.out) | exact HB.out))); (case aF => exact (fun k_ hk => Kd.freshB (g := gb250) (o := .cells #[.int .u8 0, .string (⟨#[]⟩ : ByteArray), .int .i64 0, .int .i64 0, .bool false] 33 (0, 0)) (by (with_reducible repeat (first | refine blk_drewN ?_ _ | refine blk_drew ?_ | refine blk_alloc ?_ _)); exact BK250.out) k_ hk)); (case aO => exact (by (with_reducible repeat (first | apply Kd.R_alloc | apply Kd.R_drewN | apply Kd.R_drew)); exact Kd.R_mono HO253.out (fun _ hk => hk.2))); (case aS => exact (below_size (by repeat (first | (with_reducible first | exact HB.out | apply below_alloc | apply pw_below_drewN | apply below_drew1 | refine below_set ?_ GE250.out) | exact HB.out)))); (case aL => have := LMc9.out; omega); intro v256 w11 ho hb hg hat; rw [← Ny255.out] at ho; have n0_ := Aside0.mk (blk_grown (g := gb250) (o := .cells #[.int .u8 0, .string (⟨#[]⟩ : ByteArray), .int .i64 0, .int .i64 0, .bool false] 33 (0, 0)) (by (with_reducible repeat (first | refine blk_drewN ?_ _ | refine blk_drew ?_ | refine blk_alloc ?_ _)); exact BK250.out) hg (Kd.R_away HO253.out (fun _ hk => hk.2))); have n1_ := Aside0.mk (hb); have n2_ := Aside0.mk (ho); clear BK250; clear HB; clear HO253; have BK250 := n0_; have HB := n1_; have HO257 := n2_; clear n0_ n1_ n2_; clear ho hb hg hat))
          go_meet
          case rel => exact ⟨_, (y255), H', ⟨by first | omega | exact Nat.le_refl _⟩, ⟨by (with_reducible repeat (first | apply Kd.R_alloc | apply Kd.R_drewN | apply Kd.R_drew)); exact HO257.out⟩, ⟨by (with_reducible repeat (first | refine blk_drewN ?_ _ | refine blk_drew ?_ | refine blk_alloc ?_ _)); exact BK250.out⟩, ⟨by repeat (first | (with_reducible first | exact HB.out | apply below_alloc | apply pw_below_drewN | apply below_drew1 | refine below_set ?_ GE250.out) | exact HB.out)⟩⟩
        · rw [if_neg c9] at H
          exact absurd H (by simp)
      · rw [if_neg c7] at H
        exact absurd H (by simp)
    · rw [if_neg c6] at H
      have c6b0 : decide (5 < (a0.size : Int)) = false := decide_eq_false c6
      have c6b1 : decide (5 < a0.size) = false := decide_eq_false (by omega)
      clear c6
      (first | rw [c6b0] | (simp only [i64_w, i32_w]; rw [c6b0]) | skip)
      have H' := Aside0.mk H
      clear H
      go_wp2
      go_meet
      case rel => exact ⟨_, (y251), H', ⟨by first | omega | exact Nat.le_refl _⟩, ⟨by (with_reducible repeat (first | apply Kd.R_alloc | apply Kd.R_drewN | apply Kd.R_drew)); exact Kd.R_mono HO253.out (fun _ hk => hk.2)⟩, ⟨by (with_reducible repeat (first | refine blk_drewN ?_ _ | refine blk_drew ?_ | refine blk_alloc ?_ _)); exact BK250.out⟩, ⟨by repeat (first | (with_reducible first | exact HB.out | apply below_alloc | apply pw_below_drewN | apply below_drew1 | refine below_set ?_ GE250.out) | exact HB.out)⟩⟩
  case rest =>
    clear HC2
    try clear p2
    try clear c5
    try clear c6
    try clear c6b0
    try clear c6b1
    try clear c7
    try clear c7b0
    try clear c7b1
    try clear c8
    try clear c9
    obtain ⟨kq, x4_1, HA, HJ1, HO_4, BK250, HB⟩ := hcut
    cases kq with
    | zero => exact absurd HA.out (by simp [colophonref07_piece.j0])
    | succ kj1 =>
      have H := HA.out
      clear HA
      simp only [colophonref07_piece.j0] at H
      have HC12 := Aside0.mk H
      clear H
      go_upto_if 24 with (fail)
      go_cut [4] (fun v4 wc => ∃ (kq : Nat) (x4_11 : List (S33)), Aside0 (colophonref07_piece.j1 kq a0 x4_11 = some (r1, r2, r3, r4, r5, r6)) ∧ Aside0 (kq ≤ kj1) ∧ Aside0 (Kd.R k33 33 wc w.heap.size (fun k_ => k_ ≠ gb250) v4 x4_11) ∧ Aside0 (wc.heap[gb250]? = some (.cells #[.int .u8 0, .string (⟨#[]⟩ : ByteArray), .int .i64 0, .int .i64 0, .bool false] 33 (0, 0))) ∧ Aside0 (Below w.heap.size w wc))
      case first =>
        have H := HC12.out
        clear HC12
        by_cases c13 : (a0.size : Int) > 6
        · rw [if_pos c13] at H
          have c13b0 : decide (6 < (a0.size : Int)) = true := decide_eq_true c13
          have c13b1 : decide (6 < a0.size) = true := decide_eq_true (by omega)
          clear c13
          (first | rw [c13b0] | (simp only [i64_w, i32_w]; rw [c13b0]) | skip)
          replace H := Option.bind_eq_some_iff.mp H
          obtain ⟨t258, A140, H⟩ := H
          replace H : ((some (([(⟨3, (⟨#[]⟩ : ByteArray), t258, 0, false⟩ : S33), (⟨6, (⟨#[]⟩ : ByteArray), 0, t258, false⟩ : S33), (⟨6, (⟨#[]⟩ : ByteArray), 0, t258, true⟩ : S33)] : List (S33)) : List (S33))).bind fun y259 => (if x4_1.length + y259.length < 2932031007402 then (colophonref07_piece.j1 kj1 a0 (x4_1 ++ y259)) else (none))) = some (r1, r2, r3, r4, r5, r6) := H
          have A14 := Aside0.mk A140
          clear A140
          obtain ⟨y259, hy259⟩ : ∃ y_ : List (S33), y_ = (([(⟨3, (⟨#[]⟩ : ByteArray), t258, 0, false⟩ : S33), (⟨6, (⟨#[]⟩ : ByteArray), 0, t258, false⟩ : S33), (⟨6, (⟨#[]⟩ : ByteArray), 0, t258, true⟩ : S33)] : List (S33))) := ⟨_, rfl⟩
          replace H : (if x4_1.length + y259.length < 2932031007402 then (colophonref07_piece.j1 kj1 a0 (x4_1 ++ y259)) else (none)) = some (r1, r2, r3, r4, r5, r6) := by first | (rw [hy259]; with_reducible exact H) | (have H2_ := (Option.bind_some _ _).symm.trans H; rw [hy259]; with_reducible exact H2_) | (have H2_ := (Option.bind_some _ _).symm.trans H; with_reducible exact H2_) | with_reducible exact H | (rw [hy259]; exact H) | exact H
          have Ny259 := Aside0.mk hy259
          clear hy259
          by_cases c15 : x4_1.length + y259.length < 2932031007402
          · rw [if_pos c15] at H
            have LMc15 := Aside0.mk c15
            clear c15
            obtain ⟨y262, hy262⟩ : ∃ y_ : List (S33), y_ = (x4_1 ++ y259) := ⟨_, rfl⟩
            replace H : (colophonref07_piece.j1 kj1 a0 y262) = some (r1, r2, r3, r4, r5, r6) := by first | (rw [hy262]; with_reducible exact H) | (have H2_ := (Option.bind_some _ _).symm.trans H; rw [hy262]; with_reducible exact H2_) | (have H2_ := (Option.bind_some _ _).symm.trans H; with_reducible exact H2_) | with_reducible exact H | (rw [hy262]; exact H) | exact H
            have Ny262 := Aside0.mk hy262
            clear hy262
            have H' := Aside0.mk H
            clear H
            go_wp2_with (first | ((with_reducible refine gate_callee (f := 81) rfl ?_); refine goesL_ (some 26) rfl rfl Tryd.func81 (by kernel_rfl) rfl #[.string a0, .int .i64 6] rfl (by (try simp only [List.map_toArray, List.map_cons, List.map_nil]); first | done | rfl | (simp only [List.length_drop, List.length_take]; rfl)) ?_; (with_reducible refine (colophonref07_number.calls kj1 a0 6 t258 _ A14.out).mono ?_); rintro e w' ⟨rfl, ⟨nd, rfl⟩⟩; refine ⟨_, rfl, ?_⟩) | ((with_reducible refine gate_dst (N := 34) rfl ?_); refine Kd.R_lit k33 _ 33 ?hg (N := 34) ?hd (xs := ([(⟨3, (⟨#[]⟩ : ByteArray), t258, 0, false⟩ : S33), (⟨6, (⟨#[]⟩ : ByteArray), 0, t258, false⟩ : S33), (⟨6, (⟨#[]⟩ : ByteArray), 0, t258, true⟩ : S33)] : List (S33))) (inner := [.int .u8 3, .string (⟨#[]⟩ : ByteArray), .int .i64 t258, .int .i64 0, .bool false, .int .u8 6, .string (⟨#[]⟩ : ByteArray), .int .i64 0, .int .i64 t258, .bool false, .int .u8 6, .string (⟨#[]⟩ : ByteArray), .int .i64 0, .int .i64 t258, .bool true]) (ok := fun _ => True) (okp := fun _ => True) ?hr ?hp (fun _ hk => hk) trivial (Below.refl _ _) (Nat.le_refl _) (by simp) ?_; (case hd => rfl); (case hg => rfl); (case hr => first | (go_simp; done) | (go_simp; rfl)); (case hp => exact (Reps.c5 (show Kd.M k33 _ _ _ (⟨3, (⟨#[]⟩ : ByteArray), t258, 0, false⟩ : S33) [.int .u8 3, .string (⟨#[]⟩ : ByteArray), .int .i64 t258, .int .i64 0, .bool false] from (k33_mkM _ _ _ (⟨3, (⟨#[]⟩ : ByteArray), t258, 0, false⟩ : S33) )) (Reps.c5 (show Kd.M k33 _ _ _ (⟨6, (⟨#[]⟩ : ByteArray), 0, t258, false⟩ : S33) [.int .u8 6, .string (⟨#[]⟩ : ByteArray), .int .i64 0, .int .i64 t258, .bool false] from (k33_mkM _ _ _ (⟨6, (⟨#[]⟩ : ByteArray), 0, t258, false⟩ : S33) )) (Reps.c5 (show Kd.M k33 _ _ _ (⟨6, (⟨#[]⟩ : ByteArray), 0, t258, true⟩ : S33) [.int .u8 6, .string (⟨#[]⟩ : ByteArray), .int .i64 0, .int .i64 t258, .bool true] from (k33_mkM _ _ _ (⟨6, (⟨#[]⟩ : ByteArray), 0, t258, true⟩ : S33) )) (Reps.none _ _))))); intro v260 w16 ho17 hb hg_ hnew_; clear hg_ hnew_; (first | rw [← Ny259.out] at ho17 | (simp only [Int.reduceToNat] at ho17; rw [← Ny259.out] at ho17)); have n0_ := Aside0.mk (Kd.R_elder' (by (with_reducible repeat (first | apply Kd.R_alloc | apply Kd.R_drewN | apply Kd.R_drew)); exact HO_4.out) (Kd.R_base ho17) hb); have n1_ := Aside0.mk (Kd.R_lower (Kd.R_newB (Kd.R_new' ho17 (Kd.R_lt (by (with_reducible repeat (first | apply Kd.R_alloc | apply Kd.R_drewN | apply Kd.R_drew)); exact HO_4.out))) (g := gb250) (o := .cells #[.int .u8 0, .string (⟨#[]⟩ : ByteArray), .int .i64 0, .int .i64 0, .bool false] 33 (0, 0)) (by (with_reducible repeat (first | refine blk_drewN ?_ _ | refine blk_drew ?_ | refine blk_alloc ?_ _)); exact BK250.out)) (below_size (by repeat (first | (with_reducible first | exact HB.out | apply below_alloc | apply pw_below_drewN | apply below_drew1 | refine below_set ?_ GE250.out) | exact HB.out)))); have n2_ := Aside0.mk (blk_below (g := gb250) (o := .cells #[.int .u8 0, .string (⟨#[]⟩ : ByteArray), .int .i64 0, .int .i64 0, .bool false] 33 (0, 0)) (by (with_reducible repeat (first | refine blk_drewN ?_ _ | refine blk_drew ?_ | refine blk_alloc ?_ _)); exact BK250.out) hb); have n3_ := Aside0.mk (below_step (by repeat (first | (with_reducible first | exact HB.out | apply below_alloc | apply pw_below_drewN | apply below_drew1 | refine below_set ?_ GE250.out) | exact HB.out)) hb); clear HO_4; clear BK250; clear HB; have HO_4 := n0_; have HO261 := n1_; have BK250 := n2_; have HB := n3_; clear n0_ n1_ n2_ n3_; clear hb ho17; obtain ⟨Ao19, co19, eo19⟩ := Kd.R_slice HO261.out; subst eo19) | ((with_reducible refine gate_builtin (b := .append) (xs := #[.tmp 27, .tmp 34]) rfl ?_); at_builtin; refine Kd.R_append_rows k33 (w0 := w) w.heap.size rfl (.tmp 27) (.tmp 34) 23 33 (.agg #[(.int .u8 0), (.string ⟨#[]⟩), (.int .i64 0), (.int .i64 0), (.bool false)]) 48 rfl Tryd.underlying23 info33 rfl (by decide) (by omega) u4 x4_1 y259 _ _ _ (fun k_ => some k_ ≠ (.slice Ao19 y259.length co19 : Value).ownBlock ∧ k_ ≠ gb250) (fun _ => False) rfl rfl ?aO ?aR (fun _ _ h => h) (fun _ h => h.elim) ?aF ?aB ?aS ?aL ?_; (case aR => repeat (first | exact (Kd.R_reads' HO261.out).2.2 | (with_reducible refine Kd.C_alloc ?_ _) | (with_reducible refine Kd.C_drewN ?_ _) | (with_reducible refine Kd.C_drew ?_))); (case aB => exact (by repeat (first | (with_reducible first | exact HB.out | apply below_alloc | apply pw_below_drewN | apply below_drew1 | refine below_set ?_ GE250.out) | exact HB.out))); (case aF => exact (fun k_ hk => ⟨Kd.fresh' (Kd.R_lt (by (with_reducible repeat (first | apply Kd.R_alloc | apply Kd.R_drewN | apply Kd.R_drew)); exact HO261.out)) k_ hk, Kd.freshB (g := gb250) (o := .cells #[.int .u8 0, .string (⟨#[]⟩ : ByteArray), .int .i64 0, .int .i64 0, .bool false] 33 (0, 0)) (by (with_reducible repeat (first | refine blk_drewN ?_ _ | refine blk_drew ?_ | refine blk_alloc ?_ _)); exact BK250.out) k_ hk⟩)); (case aO => exact (by (with_reducible repeat (first | apply Kd.R_alloc | apply Kd.R_drewN | apply Kd.R_drew)); exact Kd.R_mono HO_4.out (fun _ hk => ⟨hk.2, hk.1⟩))); (case aS => exact (below_size (by repeat (first | (with_reducible first | exact HB.out | apply below_alloc | apply pw_below_drewN | apply below_drew1 | refine below_set ?_ GE250.out) | exact HB.out)))); (case aL => have := LMc15.out; omega); intro v263 w18 ho hb hg hat; rw [← Ny262.out] at ho; have n0_ := Aside0.mk (blk_grown (g := gb250) (o := .cells #[.int .u8 0, .string (⟨#[]⟩ : ByteArray), .int .i64 0, .int .i64 0, .bool false] 33 (0, 0)) (by (with_reducible repeat (first | refine blk_drewN ?_ _ | refine blk_drew ?_ | refine blk_alloc ?_ _)); exact BK250.out) hg (Kd.R_away HO_4.out (fun _ hk => hk.1))); have n1_ := Aside0.mk (Kd.R_after (ok := (fun k_ => k_ ≠ gb250)) (by (with_reducible repeat (first | apply Kd.R_alloc | apply Kd.R_drewN | apply Kd.R_drew)); exact Kd.R_mono HO261.out (fun _ hk => ⟨hk.2, hk.1.2⟩)) hg hat); have n2_ := Aside0.mk (hb); have n3_ := Aside0.mk (ho); clear BK250; clear HO261; clear HB; clear HO_4; have BK250 := n0_; have HO261 := n1_; have HB := n2_; have HO264 := n3_; clear n0_ n1_ n2_ n3_; clear ho hb hg hat))
            go_meet
            case rel => exact ⟨_, (y262), H', ⟨by have := HJ1.out; first | omega | exact Nat.le_refl _⟩, ⟨by (with_reducible repeat (first | apply Kd.R_alloc | apply Kd.R_drewN | apply Kd.R_drew)); exact Kd.R_mono HO264.out (fun _ hk => hk.2)⟩, ⟨by (with_reducible repeat (first | refine blk_drewN ?_ _ | refine blk_drew ?_ | refine blk_alloc ?_ _)); exact BK250.out⟩, ⟨by repeat (first | (with_reducible first | exact HB.out | apply below_alloc | apply pw_below_drewN | apply below_drew1 | refine below_set ?_ GE250.out) | exact HB.out)⟩⟩
          · rw [if_neg c15] at H
            exact absurd H (by simp)
        · rw [if_neg c13] at H
          have c13b0 : decide (6 < (a0.size : Int)) = false := decide_eq_false c13
          have c13b1 : decide (6 < a0.size) = false := decide_eq_false (by omega)
          clear c13
          (first | rw [c13b0] | (simp only [i64_w, i32_w]; rw [c13b0]) | skip)
          have H' := Aside0.mk H
          clear H
          go_wp2
          go_meet
          case rel => exact ⟨_, (x4_1), H', ⟨by have := HJ1.out; first | omega | exact Nat.le_refl _⟩, ⟨by (with_reducible repeat (first | apply Kd.R_alloc | apply Kd.R_drewN | apply Kd.R_drew)); exact HO_4.out⟩, ⟨by (with_reducible repeat (first | refine blk_drewN ?_ _ | refine blk_drew ?_ | refine blk_alloc ?_ _)); exact BK250.out⟩, ⟨by repeat (first | (with_reducible first | exact HB.out | apply below_alloc | apply pw_below_drewN | apply below_drew1 | refine below_set ?_ GE250.out) | exact HB.out)⟩⟩
      case rest =>
        clear HC12
        try clear c1
        try clear p2
        try clear c5
        try clear c6
        try clear c6b0
        try clear c6b1
        try clear c7
        try clear c7b0
        try clear c7b1
        try clear c8
        try clear c9
        try clear c13
        try clear c13b0
        try clear c13b1
        try clear c15
        try clear p2
        obtain ⟨kq, x4_11, HA, HJ11, HO_4, BK250, HB⟩ := hcut
        cases kq with
        | zero => exact absurd HA.out (by simp [colophonref07_piece.j1])
        | succ kj11 =>
          have H := HA.out
          clear HA
          simp only [colophonref07_piece.j1] at H
          have H' := Aside0.mk H
          clear H
          go_wp2
          go_loopg [6] kj11 (fun kq v6 w' => ∃ (x6_3 : Int) (x251000_3 : Int) (x251001_3 : ByteArray) (x251002_3 : Int) (x251003_3 : Int) (x251004_3 : Bool), v6 = .int .i64 x6_3 ∧ Aside0 (colophonref07_piece.l0 kq a0 x4_11 x6_3 = some (r1, r2, r3, r4, r5, r6)) ∧ Aside0 (kq ≤ kj11) ∧ Aside0 (Kd.R k33 33 w' w.heap.size (fun k_ => k_ ≠ gb250) u4 x4_11) ∧ Aside0 (w'.heap[gb250]? = some (.cells #[.int .u8 x251000_3, .string x251001_3, .int .i64 x251002_3, .int .i64 x251003_3, .bool x251004_3] 33 (0, 0))) ∧ Aside0 (Below w.heap.size w w'))
          case atStart => exact ⟨(0), (0), ((⟨#[]⟩ : ByteArray)), (0), (0), (false), (by first | rfl | (simp; done) | (simp [*]; done)), H', ⟨Nat.le_refl _⟩, ⟨by (with_reducible repeat (first | apply Kd.R_alloc | apply Kd.R_drewN | apply Kd.R_drew)); exact HO_4.out⟩, ⟨by (with_reducible repeat (first | refine blk_drewN ?_ _ | refine blk_drew ?_ | refine blk_alloc ?_ _)); exact BK250.out⟩, ⟨by repeat (first | (with_reducible first | exact HB.out | apply below_alloc | apply pw_below_drewN | apply below_drew1 | refine below_set ?_ GE250.out) | exact HB.out)⟩⟩
          case round =>
            clear H'
            try clear c1
            try clear p2
            try clear c5
            try clear c6
            try clear c6b0
            try clear c6b1
            try clear c7
            try clear c7b0
            try clear c7b1
            try clear c8
            try clear c9
            try clear c13
            try clear c13b0
            try clear c13b1
            try clear c15
            try clear p2
            obtain ⟨x6_3, x251000_3, x251001_3, x251002_3, x251003_3, x251004_3, rfl, HA, HK3, HO_4, BK250, HB⟩ := hrel
            cases gk with
            | zero => exact absurd HA.out (by simp [colophonref07_piece.l0])
            | succ k3 =>
              have H := HA.out
              clear HA
              simp only [colophonref07_piece.l0] at H
              by_cases c20 : x6_3 < (x4_11.length : Int)
              · rw [if_pos c20] at H
                have c20b0 : decide (x6_3 < (x4_11.length : Int)) = true := decide_eq_true c20
                clear c20
                by_cases c21 : 0 ≤ x6_3
                · rw [if_pos c21] at H
                  have c21b0 : decide (0 ≤ x6_3) = true := decide_eq_true c21
                  clear c21
                  replace H := Option.bind_eq_some_iff.mp H
                  obtain ⟨t266, A220, H⟩ := H
                  replace H : (if t266 = true then ((colophonref07_Line.f k3 ((rd_T33 x4_11 x6_3).f0) ((rd_T33 x4_11 x6_3).f1) ((rd_T33 x4_11 x6_3).f2) ((rd_T33 x4_11 x6_3).f3) ((rd_T33 x4_11 x6_3).f4)).bind fun t268 => (if t268.toList = a0.toList then (some ((rd_T33 x4_11 x6_3).f0, (rd_T33 x4_11 x6_3).f1, (rd_T33 x4_11 x6_3).f2, (rd_T33 x4_11 x6_3).f3, (rd_T33 x4_11 x6_3).f4, true)) else (colophonref07_piece.l0 k3 a0 x4_11 (wrap64 (x6_3 + 1))))) else (colophonref07_piece.l0 k3 a0 x4_11 (wrap64 (x6_3 + 1)))) = some (r1, r2, r3, r4, r5, r6) := H
                  have A22 := Aside0.mk A220
                  clear A220
                  by_cases c23 : t266 = true
                  · subst c23
                    have H1 : ((colophonref07_Line.f k3 ((rd_T33 x4_11 x6_3).f0) ((rd_T33 x4_11 x6_3).f1) ((rd_T33 x4_11 x6_3).f2) ((rd_T33 x4_11 x6_3).f3) ((rd_T33 x4_11 x6_3).f4)).bind fun t268 => (if t268.toList = a0.toList then (some ((rd_T33 x4_11 x6_3).f0, (rd_T33 x4_11 x6_3).f1, (rd_T33 x4_11 x6_3).f2, (rd_T33 x4_11 x6_3).f3, (rd_T33 x4_11 x6_3).f4, true)) else (colophonref07_piece.l0 k3 a0 x4_11 (wrap64 (x6_3 + 1))))) = some (r1, r2, r3, r4, r5, r6) := by rw [if_pos rfl] at H; exact H
                    clear H
                    have H := H1
                    clear H1
                    replace H := Option.bind_eq_some_iff.mp H
                    obtain ⟨t268, A240, H⟩ := H
                    replace H : (if t268.toList = a0.toList then (some ((rd_T33 x4_11 x6_3).f0, (rd_T33 x4_11 x6_3).f1, (rd_T33 x4_11 x6_3).f2, (rd_T33 x4_11 x6_3).f3, (rd_T33 x4_11 x6_3).f4, true)) else (colophonref07_piece.l0 k3 a0 x4_11 (wrap64 (x6_3 + 1)))) = some (r1, r2, r3, r4, r5, r6) := H
                    have A24 := Aside0.mk A240
                    clear A240
                    by_cases c25 : t268.toList = a0.toList
                    · rw [if_pos c25] at H
                      have c25b0 : (t268.toList == a0.toList) = true := beq_iff_eq.mpr c25
                      have c25b1 : (t268.toList != a0.toList) = false := bne_eq_false_iff_eq.mpr c25
                      clear c25
                      simp only [Option.some.injEq, Prod.mk.injEq] at H
                      obtain ⟨rfl, rfl, rfl, rfl, rfl, rfl⟩ := H
                      obtain ⟨Ao26, co26, eo26⟩ := Kd.R_slice HO_4.out
                      subst eo26
                      have p265 : 0 ≤ (x6_3 : Int) := of_decide_eq_true (by first | (with_reducible assumption) | assumption)
                      have q265 : x6_3 < (x4_11.length : Int) := of_decide_eq_true (by first | (with_reducible assumption) | assumption)
                      obtain ⟨ad265, e265, hx265_0, hx265_1, hx265_2, hx265_3, hx265_4⟩ := at_T33 (Kd.R_reads' HO_4.out).2.2 x6_3 p265 q265
                      cases e265
                      replace p265 := eq_true p265
                      replace q265 := eq_true q265
                      go_wp2_with (first | ((with_reducible refine gate_callee (f := 32) rfl ?_); refine goesL_ (some 46) rfl rfl Tryd.func32 (by kernel_rfl) rfl #[.agg #[.int .u8 ((rd_T33 x4_11 x6_3).f0), .string ((rd_T33 x4_11 x6_3).f1), .int .i64 ((rd_T33 x4_11 x6_3).f2), .int .i64 ((rd_T33 x4_11 x6_3).f3), .bool ((rd_T33 x4_11 x6_3).f4)]] rfl (by (try simp only [List.map_toArray, List.map_cons, List.map_nil]); first | done | rfl | (simp only [List.length_drop, List.length_take]; rfl)) ?_; (with_reducible refine (colophonref07_Right.calls ((rd_T33 x4_11 x6_3).f0) ((rd_T33 x4_11 x6_3).f1) ((rd_T33 x4_11 x6_3).f2) ((rd_T33 x4_11 x6_3).f3) ((rd_T33 x4_11 x6_3).f4) true _ A22.out).mono ?_); rintro e w27 ⟨rfl, hb⟩; refine ⟨_, rfl, ?_⟩; have n0_ := Aside0.mk (Kd.R_below (by (with_reducible repeat (first | apply Kd.R_alloc | apply Kd.R_drewN | apply Kd.R_drew)); exact HO_4.out) hb); have n1_ := Aside0.mk (blk_below (g := gb250) (o := .cells #[.int .u8 x251000_3, .string x251001_3, .int .i64 x251002_3, .int .i64 x251003_3, .bool x251004_3] 33 (0, 0)) (by (with_reducible repeat (first | refine blk_drewN ?_ _ | refine blk_drew ?_ | refine blk_alloc ?_ _)); exact BK250.out) hb); have n2_ := Aside0.mk (below_step (by repeat (first | (with_reducible first | exact HB.out | apply below_alloc | apply pw_below_drewN | apply below_drew1 | refine below_set ?_ GE250.out) | exact HB.out)) hb); clear HO_4; clear BK250; clear HB; have HO_4 := n0_; have BK250 := n1_; have HB := n2_; clear n0_ n1_ n2_; (try clear hb); (try clear hb2); (try clear hk); (try clear hi); have p267 : 0 ≤ (x6_3 : Int) := of_decide_eq_true (by first | (with_reducible assumption) | assumption); have q267 : x6_3 < (x4_11.length : Int) := of_decide_eq_true (by first | (with_reducible assumption) | assumption); obtain ⟨ad267, e267, hx267_0, hx267_1, hx267_2, hx267_3, hx267_4⟩ := at_T33 (Kd.R_reads' HO_4.out).2.2 x6_3 p267 q267; obtain rfl : ad265 = ad267 := (by injection e267); replace p267 := eq_true p267; replace q267 := eq_true q267) | (go_at_call 47; (with_reducible refine (colophonref07_Line.calls k3 ((rd_T33 x4_11 x6_3).f0) ((rd_T33 x4_11 x6_3).f1) ((rd_T33 x4_11 x6_3).f2) ((rd_T33 x4_11 x6_3).f3) ((rd_T33 x4_11 x6_3).f4) t268 _ A24.out).mono ?_); rintro e w28 ⟨rfl, hb⟩; have n0_ := Aside0.mk (Kd.R_below (by (with_reducible repeat (first | apply Kd.R_alloc | apply Kd.R_drewN | apply Kd.R_drew)); exact HO_4.out) hb); have n1_ := Aside0.mk (blk_below (g := gb250) (o := .cells #[.int .u8 x251000_3, .string x251001_3, .int .i64 x251002_3, .int .i64 x251003_3, .bool x251004_3] 33 (0, 0)) (by (with_reducible repeat (first | refine blk_drewN ?_ _ | refine blk_drew ?_ | refine blk_alloc ?_ _)); exact BK250.out) hb); have n2_ := Aside0.mk (below_step (by repeat (first | (with_reducible first | exact HB.out | apply below_alloc | apply pw_below_drewN | apply below_drew1 | refine below_set ?_ GE250.out) | exact HB.out)) hb); clear HO_4; clear BK250; clear HB; have HO_4 := n0_; have BK250 := n1_; have HB := n2_; clear n0_ n1_ n2_; (try clear hb); (try clear hb2); (try clear hk); (try clear hi); have p269 : 0 ≤ (x6_3 : Int) := of_decide_eq_true (by first | (with_reducible assumption) | assumption); have q269 : x6_3 < (x4_11.length : Int) := of_decide_eq_true (by first | (with_reducible assumption) | assumption); obtain ⟨ad269, e269, hx269_0, hx269_1, hx269_2, hx269_3, hx269_4⟩ := at_T33 (Kd.R_reads' HO_4.out).2.2 x6_3 p269 q269; obtain rfl : ad265 = ad269 := (by injection e269); replace p269 := eq_true p269; replace q269 := eq_true q269; have hcz29_0 : w28.cell? ⟨gb250, 0, none⟩ = some (.int .u8 x251000_3) := (blk_cell BK250.out 0).trans rfl; have hcz29_1 : w28.cell? ⟨gb250, 1, none⟩ = some (.string x251001_3) := (blk_cell BK250.out 1).trans rfl; have hcz29_2 : w28.cell? ⟨gb250, 2, none⟩ = some (.int .i64 x251002_3) := (blk_cell BK250.out 2).trans rfl; have hcz29_3 : w28.cell? ⟨gb250, 3, none⟩ = some (.int .i64 x251003_3) := (blk_cell BK250.out 3).trans rfl; have hcz29_4 : w28.cell? ⟨gb250, 4, none⟩ = some (.bool x251004_3) := (blk_cell BK250.out 4).trans rfl; have hfz29_0 := blk_frozen BK250.out 0; have hfz29_1 := blk_frozen BK250.out 1; have hfz29_2 := blk_frozen BK250.out 2; have hfz29_3 := blk_frozen BK250.out 3; have hfz29_4 := blk_frozen BK250.out 4))
                      refine bodyPost_ret (results_ct rfl _ _ gb250 33 #[.int .u8 ((rd_T33 x4_11 x6_3).f0), .string ((rd_T33 x4_11 x6_3).f1), .int .i64 ((rd_T33 x4_11 x6_3).f2), .int .i64 ((rd_T33 x4_11 x6_3).f3), .bool ((rd_T33 x4_11 x6_3).f4)] (0, 0) _ rfl (by (with_reducible repeat (first | refine blk_drewN ?_ _ | refine blk_drew ?_ | refine blk_alloc ?_ _)); refine blk_put (cs := #[.int .u8 ((rd_T33 x4_11 x6_3).f0), .string ((rd_T33 x4_11 x6_3).f1), .int .i64 ((rd_T33 x4_11 x6_3).f2), .int .i64 ((rd_T33 x4_11 x6_3).f3), .bool x251004_3]) ?_ 4 _ rfl; (with_reducible repeat (first | refine blk_drewN ?_ _ | refine blk_drew ?_ | refine blk_alloc ?_ _)); refine blk_put (cs := #[.int .u8 ((rd_T33 x4_11 x6_3).f0), .string ((rd_T33 x4_11 x6_3).f1), .int .i64 ((rd_T33 x4_11 x6_3).f2), .int .i64 x251003_3, .bool x251004_3]) ?_ 3 _ rfl; (with_reducible repeat (first | refine blk_drewN ?_ _ | refine blk_drew ?_ | refine blk_alloc ?_ _)); refine blk_put (cs := #[.int .u8 ((rd_T33 x4_11 x6_3).f0), .string ((rd_T33 x4_11 x6_3).f1), .int .i64 x251002_3, .int .i64 x251003_3, .bool x251004_3]) ?_ 2 _ rfl; (with_reducible repeat (first | refine blk_drewN ?_ _ | refine blk_drew ?_ | refine blk_alloc ?_ _)); refine blk_put (cs := #[.int .u8 ((rd_T33 x4_11 x6_3).f0), .string x251001_3, .int .i64 x251002_3, .int .i64 x251003_3, .bool x251004_3]) ?_ 1 _ rfl; (with_reducible repeat (first | refine blk_drewN ?_ _ | refine blk_drew ?_ | refine blk_alloc ?_ _)); refine blk_put (cs := #[.int .u8 x251000_3, .string x251001_3, .int .i64 x251002_3, .int .i64 x251003_3, .bool x251004_3]) ?_ 0 _ rfl; (with_reducible repeat (first | refine blk_drewN ?_ _ | refine blk_drew ?_ | refine blk_alloc ?_ _)); exact BK250.out) Tryd.underlying33 rfl (by kernel_rfl)) rfl ?_
                      exact ⟨by first | rfl | (simp [errW_none, errW_some] <;> rfl) | (simp [*, errW_none, errW_some] <;> rfl), by repeat (first | (with_reducible first | exact HB.out | apply below_alloc | apply pw_below_drewN | apply below_drew1 | refine below_set ?_ GE250.out) | exact HB.out)⟩
                    · rw [if_neg c25] at H
                      have c25b0 : (t268.toList == a0.toList) = false := beq_eq_false_iff_ne.mpr c25
                      have c25b1 : (t268.toList != a0.toList) = true := bne_iff_ne.mpr c25
                      have H' := Aside0.mk H
                      clear H
                      obtain ⟨Ao30, co30, eo30⟩ := Kd.R_slice HO_4.out
                      subst eo30
                      have p265 : 0 ≤ (x6_3 : Int) := of_decide_eq_true (by first | (with_reducible assumption) | assumption)
                      have q265 : x6_3 < (x4_11.length : Int) := of_decide_eq_true (by first | (with_reducible assumption) | assumption)
                      obtain ⟨ad265, e265, hx265_0, hx265_1, hx265_2, hx265_3, hx265_4⟩ := at_T33 (Kd.R_reads' HO_4.out).2.2 x6_3 p265 q265
                      cases e265
                      replace p265 := eq_true p265
                      replace q265 := eq_true q265
                      go_wp2_with (first | ((with_reducible refine gate_callee (f := 32) rfl ?_); refine goesL_ (some 46) rfl rfl Tryd.func32 (by kernel_rfl) rfl #[.agg #[.int .u8 ((rd_T33 x4_11 x6_3).f0), .string ((rd_T33 x4_11 x6_3).f1), .int .i64 ((rd_T33 x4_11 x6_3).f2), .int .i64 ((rd_T33 x4_11 x6_3).f3), .bool ((rd_T33 x4_11 x6_3).f4)]] rfl (by (try simp only [List.map_toArray, List.map_cons, List.map_nil]); first | done | rfl | (simp only [List.length_drop, List.length_take]; rfl)) ?_; (with_reducible refine (colophonref07_Right.calls ((rd_T33 x4_11 x6_3).f0) ((rd_T33 x4_11 x6_3).f1) ((rd_T33 x4_11 x6_3).f2) ((rd_T33 x4_11 x6_3).f3) ((rd_T33 x4_11 x6_3).f4) true _ A22.out).mono ?_); rintro e w31 ⟨rfl, hb⟩; refine ⟨_, rfl, ?_⟩; have n0_ := Aside0.mk (Kd.R_below (by (with_reducible repeat (first | apply Kd.R_alloc | apply Kd.R_drewN | apply Kd.R_drew)); exact HO_4.out) hb); have n1_ := Aside0.mk (blk_below (g := gb250) (o := .cells #[.int .u8 x251000_3, .string x251001_3, .int .i64 x251002_3, .int .i64 x251003_3, .bool x251004_3] 33 (0, 0)) (by (with_reducible repeat (first | refine blk_drewN ?_ _ | refine blk_drew ?_ | refine blk_alloc ?_ _)); exact BK250.out) hb); have n2_ := Aside0.mk (below_step (by repeat (first | (with_reducible first | exact HB.out | apply below_alloc | apply pw_below_drewN | apply below_drew1 | refine below_set ?_ GE250.out) | exact HB.out)) hb); clear HO_4; clear BK250; clear HB; have HO_4 := n0_; have BK250 := n1_; have HB := n2_; clear n0_ n1_ n2_; (try clear hb); (try clear hb2); (try clear hk); (try clear hi); have p267 : 0 ≤ (x6_3 : Int) := of_decide_eq_true (by first | (with_reducible assumption) | assumption); have q267 : x6_3 < (x4_11.length : Int) := of_decide_eq_true (by first | (with_reducible assumption) | assumption); obtain ⟨ad267, e267, hx267_0, hx267_1, hx267_2, hx267_3, hx267_4⟩ := at_T33 (Kd.R_reads' HO_4.out).2.2 x6_3 p267 q267; obtain rfl : ad265 = ad267 := (by injection e267); replace p267 := eq_true p267; replace q267 := eq_true q267) | (go_at_call 47; (with_reducible refine (colophonref07_Line.calls k3 ((rd_T33 x4_11 x6_3).f0) ((rd_T33 x4_11 x6_3).f1) ((rd_T33 x4_11 x6_3).f2) ((rd_T33 x4_11 x6_3).f3) ((rd_T33 x4_11 x6_3).f4) t268 _ A24.out).mono ?_); rintro e w32 ⟨rfl, hb⟩; have n0_ := Aside0.mk (Kd.R_below (by (with_reducible repeat (first | apply Kd.R_alloc | apply Kd.R_drewN | apply Kd.R_drew)); exact HO_4.out) hb); have n1_ := Aside0.mk (blk_below (g := gb250) (o := .cells #[.int .u8 x251000_3, .string x251001_3, .int .i64 x251002_3, .int .i64 x251003_3, .bool x251004_3] 33 (0, 0)) (by (with_reducible repeat (first | refine blk_drewN ?_ _ | refine blk_drew ?_ | refine blk_alloc ?_ _)); exact BK250.out) hb); have n2_ := Aside0.mk (below_step (by repeat (first | (with_reducible first | exact HB.out | apply below_alloc | apply pw_below_drewN | apply below_drew1 | refine below_set ?_ GE250.out) | exact HB.out)) hb); clear HO_4; clear BK250; clear HB; have HO_4 := n0_; have BK250 := n1_; have HB := n2_; clear n0_ n1_ n2_; (try clear hb); (try clear hb2); (try clear hk); (try clear hi)))
                      go_roundg k3
                      case measure => have := HJ1.out; have := HJ11.out; have := HK3.out; omega
                      case rel => exact ⟨(wrap64 (x6_3 + 1)), (x251000_3), (x251001_3), (x251002_3), (x251003_3), (x251004_3), (by first | rfl | (simp; done) | (simp [*]; done)), H', ⟨by have := HJ1.out; have := HJ11.out; have := HK3.out; omega⟩, ⟨by (with_reducible repeat (first | apply Kd.R_alloc | apply Kd.R_drewN | apply Kd.R_drew)); exact HO_4.out⟩, ⟨by (with_reducible repeat (first | refine blk_drewN ?_ _ | refine blk_drew ?_ | refine blk_alloc ?_ _)); exact BK250.out⟩, ⟨by repeat (first | (with_reducible first | exact HB.out | apply below_alloc | apply pw_below_drewN | apply below_drew1 | refine below_set ?_ GE250.out) | exact HB.out)⟩⟩
                  · replace c23 := Bool.eq_false_iff.mpr c23
                    subst c23
                    have H1 : (colophonref07_piece.l0 k3 a0 x4_11 (wrap64 (x6_3 + 1))) = some (r1, r2, r3, r4, r5, r6) := by rw [if_neg (show ¬ (false = true) by decide)] at H; exact H
                    clear H
                    have H := H1
                    clear H1
                    have H' := Aside0.mk H
                    clear H
                    obtain ⟨Ao33, co33, eo33⟩ := Kd.R_slice HO_4.out
                    subst eo33
                    have p265 : 0 ≤ (x6_3 : Int) := of_decide_eq_true (by first | (with_reducible assumption) | assumption)
                    have q265 : x6_3 < (x4_11.length : Int) := of_decide_eq_true (by first | (with_reducible assumption) | assumption)
                    obtain ⟨ad265, e265, hx265_0, hx265_1, hx265_2, hx265_3, hx265_4⟩ := at_T33 (Kd.R_reads' HO_4.out).2.2 x6_3 p265 q265
                    cases e265
                    replace p265 := eq_true p265
                    replace q265 := eq_true q265
                    go_wp2_with (first | ((with_reducible refine gate_callee (f := 32) rfl ?_); refine goesL_ (some 46) rfl rfl Tryd.func32 (by kernel_rfl) rfl #[.agg #[.int .u8 ((rd_T33 x4_11 x6_3).f0), .string ((rd_T33 x4_11 x6_3).f1), .int .i64 ((rd_T33 x4_11 x6_3).f2), .int .i64 ((rd_T33 x4_11 x6_3).f3), .bool ((rd_T33 x4_11 x6_3).f4)]] rfl (by (try simp only [List.map_toArray, List.map_cons, List.map_nil]); first | done | rfl | (simp only [List.length_drop, List.length_take]; rfl)) ?_; (with_reducible refine (colophonref07_Right.calls ((rd_T33 x4_11 x6_3).f0) ((rd_T33 x4_11 x6_3).f1) ((rd_T33 x4_11 x6_3).f2) ((rd_T33 x4_11 x6_3).f3) ((rd_T33 x4_11 x6_3).f4) false _ A22.out).mono ?_); rintro e w34 ⟨rfl, hb⟩; refine ⟨_, rfl, ?_⟩; have n0_ := Aside0.mk (Kd.R_below (by (with_reducible repeat (first | apply Kd.R_alloc | apply Kd.R_drewN | apply Kd.R_drew)); exact HO_4.out) hb); have n1_ := Aside0.mk (blk_below (g := gb250) (o := .cells #[.int .u8 x251000_3, .string x251001_3, .int .i64 x251002_3, .int .i64 x251003_3, .bool x251004_3] 33 (0, 0)) (by (with_reducible repeat (first | refine blk_drewN ?_ _ | refine blk_drew ?_ | refine blk_alloc ?_ _)); exact BK250.out) hb); have n2_ := Aside0.mk (below_step (by repeat (first | (with_reducible first | exact HB.out | apply below_alloc | apply pw_below_drewN | apply below_drew1 | refine below_set ?_ GE250.out) | exact HB.out)) hb); clear HO_4; clear BK250; clear HB; have HO_4 := n0_; have BK250 := n1_; have HB := n2_; clear n0_ n1_ n2_; (try clear hb); (try clear hb2); (try clear hk); (try clear hi)))
                    go_roundg k3
                    case measure => have := HJ1.out; have := HJ11.out; have := HK3.out; omega
                    case rel => exact ⟨(wrap64 (x6_3 + 1)), (x251000_3), (x251001_3), (x251002_3), (x251003_3), (x251004_3), (by first | rfl | (simp; done) | (simp [*]; done)), H', ⟨by have := HJ1.out; have := HJ11.out; have := HK3.out; omega⟩, ⟨by (with_reducible repeat (first | apply Kd.R_alloc | apply Kd.R_drewN | apply Kd.R_drew)); exact HO_4.out⟩, ⟨by (with_reducible repeat (first | refine blk_drewN ?_ _ | refine blk_drew ?_ | refine blk_alloc ?_ _)); exact BK250.out⟩, ⟨by repeat (first | (with_reducible first | exact HB.out | apply below_alloc | apply pw_below_drewN | apply below_drew1 | refine below_set ?_ GE250.out) | exact HB.out)⟩⟩
                · rw [if_neg c21] at H
                  exact absurd H (by simp)
              · rw [if_neg c20] at H
                have c20b0 : decide (x6_3 < (x4_11.length : Int)) = false := decide_eq_false c20
                clear c20
                simp only [Option.some.injEq, Prod.mk.injEq] at H
                obtain ⟨rfl, rfl, rfl, rfl, rfl, rfl⟩ := H
                obtain ⟨Ao35, co35, eo35⟩ := Kd.R_slice HO_4.out
                subst eo35
                have hcz36_0 : wr.cell? ⟨gb250, 0, none⟩ = some (.int .u8 x251000_3) := (blk_cell BK250.out 0).trans rfl
                have hcz36_1 : wr.cell? ⟨gb250, 1, none⟩ = some (.string x251001_3) := (blk_cell BK250.out 1).trans rfl
                have hcz36_2 : wr.cell? ⟨gb250, 2, none⟩ = some (.int .i64 x251002_3) := (blk_cell BK250.out 2).trans rfl
                have hcz36_3 : wr.cell? ⟨gb250, 3, none⟩ = some (.int .i64 x251003_3) := (blk_cell BK250.out 3).trans rfl
                have hcz36_4 : wr.cell? ⟨gb250, 4, none⟩ = some (.bool x251004_3) := (blk_cell BK250.out 4).trans rfl
                have hfz36_0 := blk_frozen BK250.out 0
                have hfz36_1 := blk_frozen BK250.out 1
                have hfz36_2 := blk_frozen BK250.out 2
                have hfz36_3 := blk_frozen BK250.out 3
                have hfz36_4 := blk_frozen BK250.out 4
                go_wp2
                refine bodyPost_ret (results_ct rfl _ _ gb250 33 #[.int .u8 0, .string (⟨#[]⟩ : ByteArray), .int .i64 0, .int .i64 0, .bool false] (0, 0) _ rfl (by (with_reducible repeat (first | refine blk_drewN ?_ _ | refine blk_drew ?_ | refine blk_alloc ?_ _)); refine blk_put (cs := #[.int .u8 0, .string (⟨#[]⟩ : ByteArray), .int .i64 0, .int .i64 0, .bool x251004_3]) ?_ 4 _ rfl; (with_reducible repeat (first | refine blk_drewN ?_ _ | refine blk_drew ?_ | refine blk_alloc ?_ _)); refine blk_put (cs := #[.int .u8 0, .string (⟨#[]⟩ : ByteArray), .int .i64 0, .int .i64 x251003_3, .bool x251004_3]) ?_ 3 _ rfl; (with_reducible repeat (first | refine blk_drewN ?_ _ | refine blk_drew ?_ | refine blk_alloc ?_ _)); refine blk_put (cs := #[.int .u8 0, .string (⟨#[]⟩ : ByteArray), .int .i64 x251002_3, .int .i64 x251003_3, .bool x251004_3]) ?_ 2 _ rfl; (with_reducible repeat (first | refine blk_drewN ?_ _ | refine blk_drew ?_ | refine blk_alloc ?_ _)); refine blk_put (cs := #[.int .u8 0, .string x251001_3, .int .i64 x251002_3, .int .i64 x251003_3, .bool x251004_3]) ?_ 1 _ rfl; (with_reducible repeat (first | refine blk_drewN ?_ _ | refine blk_drew ?_ | refine blk_alloc ?_ _)); refine blk_put (cs := #[.int .u8 x251000_3, .string x251001_3, .int .i64 x251002_3, .int .i64 x251003_3, .bool x251004_3]) ?_ 0 _ rfl; (with_reducible repeat (first | refine blk_drewN ?_ _ | refine blk_drew ?_ | refine blk_alloc ?_ _)); exact BK250.out) Tryd.underlying33 rfl (by kernel_rfl)) rfl ?_
                exact ⟨by first | rfl | (simp [errW_none, errW_some] <;> rfl) | (simp [*, errW_none, errW_some] <;> rfl), by repeat (first | (with_reducible first | exact HB.out | apply below_alloc | apply pw_below_drewN | apply below_drew1 | refine below_set ?_ GE250.out) | exact HB.out)⟩

/-! ### colophonref07_Parse: function 29 -/
def colophonref07_Parse.l0 : Nat → ByteArray → List (S33) → Int → Int → Option ((List (S33)) × Int × Int)
  | 0, _, _, _, _ => none
  | k + 1, x0, x5, x6, x7 => if x7 < (x0.size : Int) then (if 0 ≤ x7 then (if (bt x0 x7) = 10 then (if 0 ≤ x6 then (if x6 ≤ x7 then (if x7 ≤ (x0.size : Int) then ((colophonref07_piece.f k (cutS x0 (x6 : Int).toNat (x7 : Int).toNat)).bind fun bt270 => (if bt270.2.2.2.2.2 = true then (if x5.length < 2932031007402 then (colophonref07_Parse.l0 k x0 (x5 ++ [(⟨bt270.1, bt270.2.1, bt270.2.2.1, bt270.2.2.2.1, bt270.2.2.2.2.1⟩ : S33)]) (wrap64 (x7 + 1)) (wrap64 (x7 + 1))) else (none)) else (some (([] : List (S33)), 71, wrap64 ((x5.length : Int) + 1))))) else (none)) else (none)) else (none)) else (colophonref07_Parse.l0 k x0 x5 x6 (wrap64 (x7 + 1)))) else (none)) else (if x6 < (x0.size : Int) then (some (([] : List (S33)), 71, wrap64 ((x5.length : Int) + 1))) else ((colophonref07_Check.f k x5).bind fun bt280 => (if bt280.1 = 0 then (some (x5, 0, 0)) else (some (([] : List (S33)), bt280.1, wrap64 (bt280.2 + 1))))))
def colophonref07_Parse.f (k : Nat) (a0 : ByteArray) : Option ((List (S33)) × Int × Int) := if (a0.size : Int) > 4194304 then (some (([] : List (S33)), 2, 0)) else (colophonref07_Parse.l0 k a0 ([] : List (S33)) 0 0)
theorem colophonref07_Parse.mono_l : ∀ k, (∀ y0 y1 y2 y3, LeO (colophonref07_Parse.l0 k y0 y1 y2 y3) (colophonref07_Parse.l0 (k + 1) y0 y1 y2 y3))
  | 0 => fun _ _ _ _ r h => by simp [colophonref07_Parse.l0] at h
  | k + 1 => by
    have ih0 := colophonref07_Parse.mono_l k
    · intro y0 y1 y2 y3
      unfold colophonref07_Parse.l0
      repeat' first
      | (with_reducible exact ih0 _ _ _ _)
      | (with_reducible exact colophonref07_Check.mono _ _)
      | (with_reducible exact colophonref07_piece.mono _ _)
      | (with_reducible exact LeO.refl _)
      | (with_reducible exact LeO.none _)
      | (with_reducible refine LeO.ite ?_ ?_)
      | (with_reducible refine LeO.bind ?_ (fun _ => ?_))
      | exact ih0 _ _ _ _
      | exact colophonref07_Check.mono _ _
      | exact colophonref07_piece.mono _ _
      | exact LeO.none _
      | refine LeO.ite ?_ ?_
      | refine LeO.bind ?_ (fun _ => ?_)
theorem colophonref07_Parse.mono : ∀ a0 k, LeO (colophonref07_Parse.f k a0) (colophonref07_Parse.f (k + 1) a0) := by
  intro a0 k
  have ih0 := colophonref07_Parse.mono_l k
  unfold colophonref07_Parse.f
  repeat' first
      | (with_reducible exact ih0 _ _ _ _)
      | (with_reducible exact colophonref07_Check.mono _ _)
      | (with_reducible exact colophonref07_piece.mono _ _)
      | (with_reducible exact LeO.refl _)
      | (with_reducible exact LeO.none _)
      | (with_reducible refine LeO.ite ?_ ?_)
      | (with_reducible refine LeO.bind ?_ (fun _ => ?_))
      | exact ih0 _ _ _ _
      | exact colophonref07_Check.mono _ _
      | exact colophonref07_piece.mono _ _
      | exact LeO.none _
      | refine LeO.ite ?_ ?_
      | refine LeO.bind ?_ (fun _ => ?_)
set_option maxHeartbeats 8000000 in
set_option maxRecDepth 100000 in
theorem colophonref07_Parse.calls (k : Nat) (a0 : ByteArray) (r1 : List (S33)) (r2 : Int) (r3 : Int) (w : World) (h : colophonref07_Parse.f k a0 = some (r1, r2, r3)) :
    Calls Tryd.prog 29 #[.string a0] w fun e w' => ∃ v0_ : Value, e = .returned (.tuple #[v0_, .int .i64 r2, .int .i64 r3]) ∧ Kd.R k33 33 w' w.heap.size (fun _ => True) v0_ r1 ∧ Below w.heap.size w w' := by
  have hu33 := Tryd.underlying33
  have HB := Aside0.mk (Below.refl w.heap.size w)
  have H : (if (a0.size : Int) > 4194304 then (some (([] : List (S33)), 2, 0)) else (colophonref07_Parse.l0 k a0 ([] : List (S33)) 0 0)) = some (r1, r2, r3) := h
  clear h
  by_cases c2 : (a0.size : Int) > 4194304
  · rw [if_pos c2] at H
    have c2b0 : decide (4194304 < (a0.size : Int)) = true := decide_eq_true c2
    have c2b1 : decide (4194304 < a0.size) = true := decide_eq_true (by omega)
    clear c2
    simp only [Option.some.injEq, Prod.mk.injEq] at H
    obtain ⟨rfl, rfl, rfl⟩ := H
    go_enter Tryd.func29, Tryd.ntmps29
    go_wp2
    go_ret3
    exact ⟨_, by first | rfl | (simp [errW_none, errW_some] <;> rfl) | (simp [*, errW_none, errW_some] <;> rfl), by first | exact Kd.R_nil _ _ _ _ _ | exact Kd.N_nil _ _ _ _ _ | exact Kd.V_nil _ _ _ _ _ | exact Kd.Q_nil _ _ _ _ _ | exact Kd.S_nil _ _ _ _ _, by repeat (first | (with_reducible first | exact HB.out | apply below_alloc | apply pw_below_drewN | apply below_drew1) | exact HB.out)⟩
  · rw [if_neg c2] at H
    have c2b0 : decide (4194304 < (a0.size : Int)) = false := decide_eq_false c2
    have c2b1 : decide (4194304 < a0.size) = false := decide_eq_false (by omega)
    clear c2
    have H' := Aside0.mk H
    clear H
    go_enter Tryd.func29, Tryd.ntmps29
    go_wp2
    go_loopg [5, 6, 7] k (fun kq v5 v6 v7 w' => ∃ (x5_1 : List (S33)) (x6_1 : Int) (x7_1 : Int), v6 = .int .i64 x6_1 ∧ v7 = .int .i64 x7_1 ∧ Aside0 (colophonref07_Parse.l0 kq a0 x5_1 x6_1 x7_1 = some (r1, r2, r3)) ∧ Aside0 (kq ≤ k) ∧ Aside0 (Kd.R k33 33 w' w.heap.size (fun _ => True) v5 x5_1) ∧ Aside0 (Below w.heap.size w w'))
    case atStart => exact ⟨(([] : List (S33))), (0), (0), (by first | rfl | (simp; done) | (simp [*]; done)), (by first | rfl | (simp; done) | (simp [*]; done)), H', ⟨Nat.le_refl _⟩, ⟨by first | exact Kd.R_nil _ _ _ _ _ | exact Kd.N_nil _ _ _ _ _ | exact Kd.V_nil _ _ _ _ _ | exact Kd.Q_nil _ _ _ _ _ | exact Kd.S_nil _ _ _ _ _⟩, ⟨by repeat (first | (with_reducible first | exact HB.out | apply below_alloc | apply pw_below_drewN | apply below_drew1) | exact HB.out)⟩⟩
    case round =>
      clear H'
      try clear c2
      try clear c2b0
      try clear c2b1
      try clear p2
      obtain ⟨x5_1, x6_1, x7_1, rfl, rfl, HA, HK1, HO_5, HB⟩ := hrel
      cases gk with
      | zero => exact absurd HA.out (by simp [colophonref07_Parse.l0])
      | succ k1 =>
        have H := HA.out
        clear HA
        simp only [colophonref07_Parse.l0] at H
        by_cases c3 : x7_1 < (a0.size : Int)
        · rw [if_pos c3] at H
          have c3b0 : decide (x7_1 < (a0.size : Int)) = true := decide_eq_true c3
          clear c3
          by_cases c4 : 0 ≤ x7_1
          · rw [if_pos c4] at H
            have c4b0 : decide (0 ≤ x7_1) = true := decide_eq_true c4
            clear c4
            by_cases c6 : (bt a0 x7_1) = 10
            · rw [if_pos c6] at H
              have c6b0 : ((bt a0 x7_1) == 10) = true := beq_iff_eq.mpr c6
              have c6b1 : ((bt a0 x7_1) != 10) = false := bne_eq_false_iff_eq.mpr c6
              clear c6
              by_cases c7 : 0 ≤ x6_1
              · rw [if_pos c7] at H
                have c7b0 := eq_true c7
                have c7b1 : decide (0 ≤ x6_1) = true := decide_eq_true c7
                clear c7
                by_cases c8 : x6_1 ≤ x7_1
                · rw [if_pos c8] at H
                  have c8b0 := eq_true c8
                  have c8b1 : decide (x6_1 ≤ x7_1) = true := decide_eq_true c8
                  clear c8
                  by_cases c9 : x7_1 ≤ (a0.size : Int)
                  · rw [if_pos c9] at H
                    have c9b0 := eq_true c9
                    have c9b1 : decide (x7_1 ≤ (a0.size : Int)) = true := decide_eq_true c9
                    clear c9
                    replace H := Option.bind_eq_some_iff.mp H
                    obtain ⟨⟨t270, t271, t272, t273, t274, t275⟩, A100, H⟩ := H
                    replace H : (if t275 = true then (if x5_1.length < 2932031007402 then (colophonref07_Parse.l0 k1 a0 (x5_1 ++ [(⟨t270, t271, t272, t273, t274⟩ : S33)]) (wrap64 (x7_1 + 1)) (wrap64 (x7_1 + 1))) else (none)) else (some (([] : List (S33)), 71, wrap64 ((x5_1.length : Int) + 1)))) = some (r1, r2, r3) := H
                    have A10 := Aside0.mk A100
                    clear A100
                    by_cases c11 : t275 = true
                    · subst c11
                      have H1 : (if x5_1.length < 2932031007402 then (colophonref07_Parse.l0 k1 a0 (x5_1 ++ [(⟨t270, t271, t272, t273, t274⟩ : S33)]) (wrap64 (x7_1 + 1)) (wrap64 (x7_1 + 1))) else (none)) = some (r1, r2, r3) := by rw [if_pos rfl] at H; exact H
                      clear H
                      have H := H1
                      clear H1
                      by_cases c12 : x5_1.length < 2932031007402
                      · rw [if_pos c12] at H
                        have LMc12 := Aside0.mk c12
                        clear c12
                        obtain ⟨y277, hy277⟩ : ∃ y_ : List (S33), y_ = (x5_1 ++ [(⟨t270, t271, t272, t273, t274⟩ : S33)]) := ⟨_, rfl⟩
                        replace H : (colophonref07_Parse.l0 k1 a0 y277 (wrap64 (x7_1 + 1)) (wrap64 (x7_1 + 1))) = some (r1, r2, r3) := by first | (rw [hy277]; with_reducible exact H) | (have H2_ := (Option.bind_some _ _).symm.trans H; rw [hy277]; with_reducible exact H2_) | (have H2_ := (Option.bind_some _ _).symm.trans H; with_reducible exact H2_) | with_reducible exact H | (rw [hy277]; exact H) | exact H
                        have Ny277 := Aside0.mk hy277
                        clear hy277
                        have H' := Aside0.mk H
                        clear H
                        have p5 : 0 ≤ (x7_1 : Int) := of_decide_eq_true (by first | (with_reducible assumption) | assumption)
                        have q5 : x7_1 < (a0.size : Int) := of_decide_eq_true (by first | (with_reducible assumption) | assumption)
                        have hx5 := bt_at a0 x7_1
                        replace p5 := eq_true p5
                        replace q5 := eq_true q5
                        go_wp2_with (first | ((with_reducible refine gate_callee (f := 50) rfl ?_); refine goesL_ (some 30) rfl rfl Tryd.func50 (by kernel_rfl) rfl #[.string (cutS a0 (x6_1 : Int).toNat (x7_1 : Int).toNat)] rfl (by (try simp only [List.map_toArray, List.map_cons, List.map_nil]); first | done | rfl | (simp only [List.length_drop, List.length_take]; rfl)) ?_; (with_reducible refine (colophonref07_piece.calls k1 (cutS a0 (x6_1 : Int).toNat (x7_1 : Int).toNat) t270 t271 t272 t273 t274 true _ A10.out).mono ?_); rintro e w13 ⟨rfl, hb⟩; refine ⟨_, rfl, ?_⟩; have n0_ := Aside0.mk (Kd.R_below (by (with_reducible repeat (first | apply Kd.R_alloc | apply Kd.R_drewN | apply Kd.R_drew)); exact HO_5.out) hb); have n1_ := Aside0.mk (below_step (by repeat (first | (with_reducible first | exact HB.out | apply below_alloc | apply pw_below_drewN | apply below_drew1) | exact HB.out)) hb); clear HO_5; clear HB; have HO_5 := n0_; have HB := n1_; clear n0_ n1_; (try clear hb); (try clear hb2); (try clear hk); (try clear hi)) | ((with_reducible refine gate_dst (N := 8) rfl ?_); refine box_event ?hg (N := 8) ?hd (cs := #[.int .u8 0, .string (⟨#[]⟩ : ByteArray), .int .i64 0, .int .i64 0, .bool false]) (t := 33) ?hr ?_; (case hd => rfl); (case hg => rfl); (case hr => first | (go_simp; done) | (go_simp; rfl)); intro gb276 hg w14 hbox hb; have n0_ := Aside0.mk (Kd.R_below (Kd.R_elderB (by (with_reducible repeat (first | apply Kd.R_alloc | apply Kd.R_drewN | apply Kd.R_drew)); exact HO_5.out) gb276 (Nat.le_of_eq hg.symm)) hb); have n1_ := Aside0.mk (below_step (by repeat (first | (with_reducible first | exact HB.out | apply below_alloc | apply pw_below_drewN | apply below_drew1) | exact HB.out)) hb); have n2_ := Aside0.mk (hbox); have n3_ := Aside0.mk ((by rw [hg]; exact (below_size (by repeat (first | (with_reducible first | exact HB.out | apply below_alloc | apply pw_below_drewN | apply below_drew1) | exact HB.out))) : w.heap.size ≤ gb276)); have n4_ := Aside0.mk ((by rw [hg]; exact (below_size (by repeat (first | (with_reducible first | exact HB.out | apply below_alloc | apply pw_below_drewN | apply below_drew1) | exact HB.out))) : w.heap.size ≤ gb276)); clear HO_5; clear HB; have HO_5 := n0_; have HB := n1_; have BK276 := n2_; have GW276 := n3_; have GE276 := n4_; clear n0_ n1_ n2_ n3_ n4_; clear hb hbox hg; have hcz15_0 : w14.cell? ⟨gb276, 0, none⟩ = some (.int .u8 0) := (blk_cell BK276.out 0).trans rfl; have hcz15_1 : w14.cell? ⟨gb276, 1, none⟩ = some (.string (⟨#[]⟩ : ByteArray)) := (blk_cell BK276.out 1).trans rfl; have hcz15_2 : w14.cell? ⟨gb276, 2, none⟩ = some (.int .i64 0) := (blk_cell BK276.out 2).trans rfl; have hcz15_3 : w14.cell? ⟨gb276, 3, none⟩ = some (.int .i64 0) := (blk_cell BK276.out 3).trans rfl; have hcz15_4 : w14.cell? ⟨gb276, 4, none⟩ = some (.bool false) := (blk_cell BK276.out 4).trans rfl; have hfz15_0 := blk_frozen BK276.out 0; have hfz15_1 := blk_frozen BK276.out 1; have hfz15_2 := blk_frozen BK276.out 2; have hfz15_3 := blk_frozen BK276.out 3; have hfz15_4 := blk_frozen BK276.out 4) | ((with_reducible refine gate_builtin (b := .append) (xs := #[.tmp 38, .tmp 40]) rfl ?_); at_builtin; refine Kd.R_append k33 (w0 := w) w.heap.size rfl (.tmp 38) (.tmp 40) 23 33 (.agg #[(.int .u8 0), (.string ⟨#[]⟩), (.int .i64 0), (.int .i64 0), (.bool false)]) 48 rfl Tryd.underlying23 info33 rfl (by decide) (by omega) u5 x5_1 (⟨t270, t271, t272, t273, t274⟩ : S33) [.int .u8 t270, .string t271, .int .i64 t272, .int .i64 t273, .bool t274] (fun k_ => k_ ≠ gb276) (fun _ => False) rfl (by first | (go_simp; done) | (go_simp; rfl)) ?aP (fun _ hk => hk.elim) ?aF ?aO ?aB ?aS ?aL ?_; (case aP => exact k33_mkM _ _ _ (⟨t270, t271, t272, t273, t274⟩ : S33)); (case aB => exact (by repeat (first | (with_reducible first | exact HB.out | apply below_alloc | apply pw_below_drewN | apply below_drew1 | refine below_set ?_ GE276.out) | exact HB.out))); (case aF => exact (fun k_ hk => Kd.freshB (g := gb276) (o := .cells #[.int .u8 t270, .string t271, .int .i64 t272, .int .i64 t273, .bool t274] 33 (0, 0)) (by (with_reducible repeat (first | refine blk_drewN ?_ _ | refine blk_drew ?_ | refine blk_alloc ?_ _)); refine blk_put (cs := #[.int .u8 t270, .string t271, .int .i64 t272, .int .i64 t273, .bool false]) ?_ 4 _ rfl; (with_reducible repeat (first | refine blk_drewN ?_ _ | refine blk_drew ?_ | refine blk_alloc ?_ _)); refine blk_put (cs := #[.int .u8 t270, .string t271, .int .i64 t272, .int .i64 0, .bool false]) ?_ 3 _ rfl; (with_reducible repeat (first | refine blk_drewN ?_ _ | refine blk_drew ?_ | refine blk_alloc ?_ _)); refine blk_put (cs := #[.int .u8 t270, .string t271, .int .i64 0, .int .i64 0, .bool false]) ?_ 2 _ rfl; (with_reducible repeat (first | refine blk_drewN ?_ _ | refine blk_drew ?_ | refine blk_alloc ?_ _)); refine blk_put (cs := #[.int .u8 t270, .string (⟨#[]⟩ : ByteArray), .int .i64 0, .int .i64 0, .bool false]) ?_ 1 _ rfl; (with_reducible repeat (first | refine blk_drewN ?_ _ | refine blk_drew ?_ | refine blk_alloc ?_ _)); refine blk_put (cs := #[.int .u8 0, .string (⟨#[]⟩ : ByteArray), .int .i64 0, .int .i64 0, .bool false]) ?_ 0 _ rfl; (with_reducible repeat (first | refine blk_drewN ?_ _ | refine blk_drew ?_ | refine blk_alloc ?_ _)); exact BK276.out) k_ hk)); (case aO => exact (by (with_reducible repeat (first | apply Kd.R_alloc | apply Kd.R_drewN | apply Kd.R_drew)); exact Kd.R_mono (Kd.R_far (p := ⟨gb276, 4, none⟩) (Kd.R_far (p := ⟨gb276, 3, none⟩) (Kd.R_far (p := ⟨gb276, 2, none⟩) (Kd.R_far (p := ⟨gb276, 1, none⟩) (Kd.R_far (p := ⟨gb276, 0, none⟩) (Kd.R_mono HO_5.out (fun k_ hk => (⟨hk, hk.2⟩ : _ ∧ k_ ≠ gb276))) (fun _ hk => hk.2) (.int .u8 t270)) (fun _ hk => hk.2) (.string t271)) (fun _ hk => hk.2) (.int .i64 t272)) (fun _ hk => hk.2) (.int .i64 t273)) (fun _ hk => hk.2) (.bool t274)) (fun _ hk => hk.1.2))); (case aS => exact (below_size (by repeat (first | (with_reducible first | exact HB.out | apply below_alloc | apply pw_below_drewN | apply below_drew1 | refine below_set ?_ GE276.out) | exact HB.out)))); (case aL => have := LMc12.out; omega); intro v278 w16 ho hb hg hat; rw [← Ny277.out] at ho; have n0_ := Aside0.mk (blk_grown (g := gb276) (o := .cells #[.int .u8 t270, .string t271, .int .i64 t272, .int .i64 t273, .bool t274] 33 (0, 0)) (by (with_reducible repeat (first | refine blk_drewN ?_ _ | refine blk_drew ?_ | refine blk_alloc ?_ _)); refine blk_put (cs := #[.int .u8 t270, .string t271, .int .i64 t272, .int .i64 t273, .bool false]) ?_ 4 _ rfl; (with_reducible repeat (first | refine blk_drewN ?_ _ | refine blk_drew ?_ | refine blk_alloc ?_ _)); refine blk_put (cs := #[.int .u8 t270, .string t271, .int .i64 t272, .int .i64 0, .bool false]) ?_ 3 _ rfl; (with_reducible repeat (first | refine blk_drewN ?_ _ | refine blk_drew ?_ | refine blk_alloc ?_ _)); refine blk_put (cs := #[.int .u8 t270, .string t271, .int .i64 0, .int .i64 0, .bool false]) ?_ 2 _ rfl; (with_reducible repeat (first | refine blk_drewN ?_ _ | refine blk_drew ?_ | refine blk_alloc ?_ _)); refine blk_put (cs := #[.int .u8 t270, .string (⟨#[]⟩ : ByteArray), .int .i64 0, .int .i64 0, .bool false]) ?_ 1 _ rfl; (with_reducible repeat (first | refine blk_drewN ?_ _ | refine blk_drew ?_ | refine blk_alloc ?_ _)); refine blk_put (cs := #[.int .u8 0, .string (⟨#[]⟩ : ByteArray), .int .i64 0, .int .i64 0, .bool false]) ?_ 0 _ rfl; (with_reducible repeat (first | refine blk_drewN ?_ _ | refine blk_drew ?_ | refine blk_alloc ?_ _)); exact BK276.out) hg (Kd.R_away HO_5.out (fun _ hk => hk.2))); have n1_ := Aside0.mk (hb); have n2_ := Aside0.mk (ho); clear BK276; clear HB; clear HO_5; have BK276 := n0_; have HB := n1_; have HO279 := n2_; clear n0_ n1_ n2_; clear ho hb hg hat))
                        go_roundg k1
                        case measure => have := HK1.out; omega
                        case rel => exact ⟨(y277), (wrap64 (x7_1 + 1)), (wrap64 (x7_1 + 1)), (by first | rfl | (simp; done) | (simp [*]; done)), (by first | rfl | (simp; done) | (simp [*]; done)), H', ⟨by have := HK1.out; omega⟩, ⟨by (with_reducible repeat (first | apply Kd.R_alloc | apply Kd.R_drewN | apply Kd.R_drew)); exact Kd.R_mono HO279.out (fun _ hk => trivial)⟩, ⟨by repeat (first | (with_reducible first | exact HB.out | apply below_alloc | apply pw_below_drewN | apply below_drew1 | refine below_set ?_ GE276.out) | exact HB.out)⟩⟩
                      · rw [if_neg c12] at H
                        exact absurd H (by simp)
                    · replace c11 := Bool.eq_false_iff.mpr c11
                      subst c11
                      have H1 : (some (([] : List (S33)), 71, wrap64 ((x5_1.length : Int) + 1))) = some (r1, r2, r3) := by rw [if_neg (show ¬ (false = true) by decide)] at H; exact H
                      clear H
                      have H := H1
                      clear H1
                      simp only [Option.some.injEq, Prod.mk.injEq] at H
                      obtain ⟨rfl, rfl, rfl⟩ := H
                      have p5 : 0 ≤ (x7_1 : Int) := of_decide_eq_true (by first | (with_reducible assumption) | assumption)
                      have q5 : x7_1 < (a0.size : Int) := of_decide_eq_true (by first | (with_reducible assumption) | assumption)
                      have hx5 := bt_at a0 x7_1
                      replace p5 := eq_true p5
                      replace q5 := eq_true q5
                      go_wp2_with (first | ((with_reducible refine gate_callee (f := 50) rfl ?_); refine goesL_ (some 30) rfl rfl Tryd.func50 (by kernel_rfl) rfl #[.string (cutS a0 (x6_1 : Int).toNat (x7_1 : Int).toNat)] rfl (by (try simp only [List.map_toArray, List.map_cons, List.map_nil]); first | done | rfl | (simp only [List.length_drop, List.length_take]; rfl)) ?_; (with_reducible refine (colophonref07_piece.calls k1 (cutS a0 (x6_1 : Int).toNat (x7_1 : Int).toNat) t270 t271 t272 t273 t274 false _ A10.out).mono ?_); rintro e w17 ⟨rfl, hb⟩; refine ⟨_, rfl, ?_⟩; have n0_ := Aside0.mk (Kd.R_below (by (with_reducible repeat (first | apply Kd.R_alloc | apply Kd.R_drewN | apply Kd.R_drew)); exact HO_5.out) hb); have n1_ := Aside0.mk (below_step (by repeat (first | (with_reducible first | exact HB.out | apply below_alloc | apply pw_below_drewN | apply below_drew1) | exact HB.out)) hb); clear HO_5; clear HB; have HO_5 := n0_; have HB := n1_; clear n0_ n1_; (try clear hb); (try clear hb2); (try clear hk); (try clear hi)) | ((with_reducible refine gate_dst (N := 8) rfl ?_); refine box_event ?hg (N := 8) ?hd (cs := #[.int .u8 0, .string (⟨#[]⟩ : ByteArray), .int .i64 0, .int .i64 0, .bool false]) (t := 33) ?hr ?_; (case hd => rfl); (case hg => rfl); (case hr => first | (go_simp; done) | (go_simp; rfl)); intro gb276 hg w18 hbox hb; have n0_ := Aside0.mk (Kd.R_below (Kd.R_elderB (by (with_reducible repeat (first | apply Kd.R_alloc | apply Kd.R_drewN | apply Kd.R_drew)); exact HO_5.out) gb276 (Nat.le_of_eq hg.symm)) hb); have n1_ := Aside0.mk (below_step (by repeat (first | (with_reducible first | exact HB.out | apply below_alloc | apply pw_below_drewN | apply below_drew1) | exact HB.out)) hb); have n2_ := Aside0.mk (hbox); have n3_ := Aside0.mk ((by rw [hg]; exact (below_size (by repeat (first | (with_reducible first | exact HB.out | apply below_alloc | apply pw_below_drewN | apply below_drew1) | exact HB.out))) : w.heap.size ≤ gb276)); have n4_ := Aside0.mk ((by rw [hg]; exact (below_size (by repeat (first | (with_reducible first | exact HB.out | apply below_alloc | apply pw_below_drewN | apply below_drew1) | exact HB.out))) : w.heap.size ≤ gb276)); clear HO_5; clear HB; have HO_5 := n0_; have HB := n1_; have BK276 := n2_; have GW276 := n3_; have GE276 := n4_; clear n0_ n1_ n2_ n3_ n4_; clear hb hbox hg; have hcz19_0 : w18.cell? ⟨gb276, 0, none⟩ = some (.int .u8 0) := (blk_cell BK276.out 0).trans rfl; have hcz19_1 : w18.cell? ⟨gb276, 1, none⟩ = some (.string (⟨#[]⟩ : ByteArray)) := (blk_cell BK276.out 1).trans rfl; have hcz19_2 : w18.cell? ⟨gb276, 2, none⟩ = some (.int .i64 0) := (blk_cell BK276.out 2).trans rfl; have hcz19_3 : w18.cell? ⟨gb276, 3, none⟩ = some (.int .i64 0) := (blk_cell BK276.out 3).trans rfl; have hcz19_4 : w18.cell? ⟨gb276, 4, none⟩ = some (.bool false) := (blk_cell BK276.out 4).trans rfl; have hfz19_0 := blk_frozen BK276.out 0; have hfz19_1 := blk_frozen BK276.out 1; have hfz19_2 := blk_frozen BK276.out 2; have hfz19_3 := blk_frozen BK276.out 3; have hfz19_4 := blk_frozen BK276.out 4; obtain ⟨Ao20, co20, eo20⟩ := Kd.R_slice HO_5.out; subst eo20))
                      go_ret3
                      exact ⟨_, by first | rfl | (simp [errW_none, errW_some] <;> rfl) | (simp [*, errW_none, errW_some] <;> rfl), by first | exact Kd.R_nil _ _ _ _ _ | exact Kd.N_nil _ _ _ _ _ | exact Kd.V_nil _ _ _ _ _ | exact Kd.Q_nil _ _ _ _ _ | exact Kd.S_nil _ _ _ _ _, by repeat (first | (with_reducible first | exact HB.out | apply below_alloc | apply pw_below_drewN | apply below_drew1 | refine below_set ?_ GE276.out) | exact HB.out)⟩
                  · rw [if_neg c9] at H
                    exact absurd H (by simp)
                · rw [if_neg c8] at H
                  exact absurd H (by simp)
              · rw [if_neg c7] at H
                exact absurd H (by simp)
            · rw [if_neg c6] at H
              have c6b0 : ((bt a0 x7_1) == 10) = false := beq_eq_false_iff_ne.mpr c6
              have c6b1 : ((bt a0 x7_1) != 10) = true := bne_iff_ne.mpr c6
              have H' := Aside0.mk H
              clear H
              have p5 : 0 ≤ (x7_1 : Int) := of_decide_eq_true (by first | (with_reducible assumption) | assumption)
              have q5 : x7_1 < (a0.size : Int) := of_decide_eq_true (by first | (with_reducible assumption) | assumption)
              have hx5 := bt_at a0 x7_1
              replace p5 := eq_true p5
              replace q5 := eq_true q5
              go_wp2
              go_roundg k1
              case measure => have := HK1.out; omega
              case rel => exact ⟨(x5_1), (x6_1), (wrap64 (x7_1 + 1)), (by first | rfl | (simp; done) | (simp [*]; done)), (by first | rfl | (simp; done) | (simp [*]; done)), H', ⟨by have := HK1.out; omega⟩, ⟨by (with_reducible repeat (first | apply Kd.R_alloc | apply Kd.R_drewN | apply Kd.R_drew)); exact HO_5.out⟩, ⟨by repeat (first | (with_reducible first | exact HB.out | apply below_alloc | apply pw_below_drewN | apply below_drew1) | exact HB.out)⟩⟩
          · rw [if_neg c4] at H
            exact absurd H (by simp)
        · rw [if_neg c3] at H
          have c3b0 : decide (x7_1 < (a0.size : Int)) = false := decide_eq_false c3
          clear c3
          by_cases c21 : x6_1 < (a0.size : Int)
          · rw [if_pos c21] at H
            have c21b0 : decide (x6_1 < (a0.size : Int)) = true := decide_eq_true c21
            clear c21
            simp only [Option.some.injEq, Prod.mk.injEq] at H
            obtain ⟨rfl, rfl, rfl⟩ := H
            obtain ⟨Ao22, co22, eo22⟩ := Kd.R_slice HO_5.out
            subst eo22
            go_wp2
            go_ret3
            exact ⟨_, by first | rfl | (simp [errW_none, errW_some] <;> rfl) | (simp [*, errW_none, errW_some] <;> rfl), by first | exact Kd.R_nil _ _ _ _ _ | exact Kd.N_nil _ _ _ _ _ | exact Kd.V_nil _ _ _ _ _ | exact Kd.Q_nil _ _ _ _ _ | exact Kd.S_nil _ _ _ _ _, by repeat (first | (with_reducible first | exact HB.out | apply below_alloc | apply pw_below_drewN | apply below_drew1) | exact HB.out)⟩
          · rw [if_neg c21] at H
            have c21b0 : decide (x6_1 < (a0.size : Int)) = false := decide_eq_false c21
            clear c21
            replace H := Option.bind_eq_some_iff.mp H
            obtain ⟨⟨t280, t281⟩, A230, H⟩ := H
            replace H : (if t280 = 0 then (some (x5_1, 0, 0)) else (some (([] : List (S33)), t280, wrap64 (t281 + 1)))) = some (r1, r2, r3) := H
            have A23 := Aside0.mk A230
            clear A230
            by_cases c24 : t280 = 0
            · rw [if_pos c24] at H
              have c24b0 : (t280 == 0) = true := beq_iff_eq.mpr c24
              have c24b1 : (t280 != 0) = false := bne_eq_false_iff_eq.mpr c24
              clear c24
              simp only [Option.some.injEq, Prod.mk.injEq] at H
              obtain ⟨rfl, rfl, rfl⟩ := H
              obtain ⟨Ao25, co25, eo25⟩ := Kd.R_slice HO_5.out
              subst eo25
              go_wp2_with (first | ((with_reducible refine gate_callee (f := 24) rfl ?_); refine goesL_ (some 53) rfl rfl Tryd.func24 (by kernel_rfl) rfl #[.slice Ao25 x5_1.length co25] rfl (by (try simp only [List.map_toArray, List.map_cons, List.map_nil]); first | done | rfl | (simp only [List.length_drop, List.length_take]; rfl)) ?_; (with_reducible refine (colophonref07_Check.calls k1 _ _ x5_1 t280 t281 _ ?side1 ?side2 A23.out).mono ?_); (case side1 => repeat (first | exact (Kd.R_reads' HO_5.out).2.2 | (with_reducible refine Kd.C_alloc ?_ _) | (with_reducible refine Kd.C_drewN ?_ _) | (with_reducible refine Kd.C_drew ?_))); (case side2 => exact (Kd.R_reads' HO_5.out).2.1); rintro e w26 ⟨rfl, hb⟩; refine ⟨_, rfl, ?_⟩; have n0_ := Aside0.mk (Kd.R_below (by (with_reducible repeat (first | apply Kd.R_alloc | apply Kd.R_drewN | apply Kd.R_drew)); exact HO_5.out) hb); have n1_ := Aside0.mk (below_step (by repeat (first | (with_reducible first | exact HB.out | apply below_alloc | apply pw_below_drewN | apply below_drew1) | exact HB.out)) hb); clear HO_5; clear HB; have HO_5 := n0_; have HB := n1_; clear n0_ n1_; (try clear hb); (try clear hb2); (try clear hk); (try clear hi)))
              go_ret3
              exact ⟨_, by first | rfl | (simp [errW_none, errW_some] <;> rfl) | (simp [*, errW_none, errW_some] <;> rfl), by (with_reducible repeat (first | apply Kd.R_alloc | apply Kd.R_drewN | apply Kd.R_drew)); exact HO_5.out, by repeat (first | (with_reducible first | exact HB.out | apply below_alloc | apply pw_below_drewN | apply below_drew1) | exact HB.out)⟩
            · rw [if_neg c24] at H
              have c24b0 : (t280 == 0) = false := beq_eq_false_iff_ne.mpr c24
              have c24b1 : (t280 != 0) = true := bne_iff_ne.mpr c24
              simp only [Option.some.injEq, Prod.mk.injEq] at H
              obtain ⟨rfl, rfl, rfl⟩ := H
              obtain ⟨Ao27, co27, eo27⟩ := Kd.R_slice HO_5.out
              subst eo27
              go_wp2_with (first | ((with_reducible refine gate_callee (f := 24) rfl ?_); refine goesL_ (some 53) rfl rfl Tryd.func24 (by kernel_rfl) rfl #[.slice Ao27 x5_1.length co27] rfl (by (try simp only [List.map_toArray, List.map_cons, List.map_nil]); first | done | rfl | (simp only [List.length_drop, List.length_take]; rfl)) ?_; (with_reducible refine (colophonref07_Check.calls k1 _ _ x5_1 t280 t281 _ ?side1 ?side2 A23.out).mono ?_); (case side1 => repeat (first | exact (Kd.R_reads' HO_5.out).2.2 | (with_reducible refine Kd.C_alloc ?_ _) | (with_reducible refine Kd.C_drewN ?_ _) | (with_reducible refine Kd.C_drew ?_))); (case side2 => exact (Kd.R_reads' HO_5.out).2.1); rintro e w28 ⟨rfl, hb⟩; refine ⟨_, rfl, ?_⟩; have n0_ := Aside0.mk (Kd.R_below (by (with_reducible repeat (first | apply Kd.R_alloc | apply Kd.R_drewN | apply Kd.R_drew)); exact HO_5.out) hb); have n1_ := Aside0.mk (below_step (by repeat (first | (with_reducible first | exact HB.out | apply below_alloc | apply pw_below_drewN | apply below_drew1) | exact HB.out)) hb); clear HO_5; clear HB; have HO_5 := n0_; have HB := n1_; clear n0_ n1_; (try clear hb); (try clear hb2); (try clear hk); (try clear hi)))
              go_ret3
              exact ⟨_, by first | rfl | (simp [errW_none, errW_some] <;> rfl) | (simp [*, errW_none, errW_some] <;> rfl), by first | exact Kd.R_nil _ _ _ _ _ | exact Kd.N_nil _ _ _ _ _ | exact Kd.V_nil _ _ _ _ _ | exact Kd.Q_nil _ _ _ _ _ | exact Kd.S_nil _ _ _ _ _, by repeat (first | (with_reducible first | exact HB.out | apply below_alloc | apply pw_below_drewN | apply below_drew1) | exact HB.out)⟩

end Go.Proofs.YtbdilejhbeffjaaDoor.PDoc
