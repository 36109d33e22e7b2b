/- Printed by a program of this session (wip/xprint.py) over the kit's print, with contracts of this session's own: scan, its reference, its laws. -/
import Derived.Test.YtdphhmigbbgjmaaGreatDoorPScan0
import Derived.Test.YtdphhmigbbgjmaaGreatDoorPScan4
namespace Go.Proofs.YtdphhmigbbgjmaaGreatDoor.PScan
open Go.RowKit Go.Proofs.YtdphhmigbbgjmaaGreatDoorW.PrintWords Go.Proofs.YtdphhmigbbgjmaaGreatDoorW.PrintLast Go.Proofs.YtdphhmigbbgjmaaGreatDoorW.PrintMore
attribute [local go_sem] max2_int min2_int max_two min_two max_three min_three max_four min_four   -- for this text's walks alone
set_option linter.unusedVariables false
set_option linter.unusedSimpArgs false
attribute [local go_sem ↓] cutS_in

/-! ### colophonref10_begins: function 32 -/
mutual
def colophonref10_begins.j0 : Nat → ByteArray → Int → Bool → Option (Int)
  | 0, _, _, _ => none
  | k + 1, x0, x1, x8 => (colophonref04_Sign.f k x0 x1).bind fun t181 => (if x8 = true then (some 1) else (if 0 ≤ x1 then (if x1 < (x0.size : Int) then ((colophonref10_digit.f (bt x0 x1)).bind fun t182 => (if t182 = true then (some 3) else (if (bt x0 x1) = 34 then (some 4) else (if (bt x0 x1) = 39 then (some 5) else (if (bt x0 x1) = 47 then (if (wrap64 (x1 + 1)) < (x0.size : Int) then (if 0 ≤ (wrap64 (x1 + 1)) then (colophonref10_begins.j1 k x0 x1 t181 ((bt x0 (wrap64 (x1 + 1))) == 47)) else (none)) else (colophonref10_begins.j1 k x0 x1 t181 false)) else (colophonref10_begins.j1 k x0 x1 t181 false)))))) else (none)) else (none)))
def colophonref10_begins.j1 : Nat → ByteArray → Int → ByteArray → Bool → Option (Int)
  | 0, _, _, _, _ => none
  | k + 1, x0, x1, x9, x42 => if x42 = true then (some 7) else (if 0 ≤ x1 then (if x1 < (x0.size : Int) then (if (bt x0 x1) = 123 then (some 8) else (if x9.toList = ([] : List UInt8) then (some 0) else (some 6))) else (none)) else (none))
end
def colophonref10_begins.f (k : Nat) (a0 : ByteArray) (a1 : Int) : Option (Int) := (colophonref01_Next.f a0 a1).bind fun bt177 => (if bt177.2.2 = true then ((colophonref04_Letter.f k bt177.1).bind fun t180 => (colophonref10_begins.j0 k a0 a1 t180)) else (colophonref10_begins.j0 k a0 a1 false))
theorem colophonref10_begins.mono_l : ∀ k, (∀ y0 y1 y2, LeO (colophonref10_begins.j0 k y0 y1 y2) (colophonref10_begins.j0 (k + 1) y0 y1 y2)) ∧ (∀ y0 y1 y2 y3, LeO (colophonref10_begins.j1 k y0 y1 y2 y3) (colophonref10_begins.j1 (k + 1) y0 y1 y2 y3))
  | 0 => ⟨fun _ _ _ r h => by simp [colophonref10_begins.j0] at h, fun _ _ _ _ r h => by simp [colophonref10_begins.j1] at h⟩
  | k + 1 => by
    obtain ⟨ih0, ih1⟩ := colophonref10_begins.mono_l k
    refine ⟨?_, ?_⟩
    · intro y0 y1 y2
      unfold colophonref10_begins.j0
      repeat' first
      | (with_reducible exact ih0 _ _ _)
      | (with_reducible exact ih1 _ _ _ _)
      | (with_reducible exact colophonref04_Letter.mono _ _)
      | (with_reducible exact colophonref04_Sign.mono _ _ _)
      | (with_reducible exact LeO.refl _)
      | (with_reducible exact LeO.none _)
      | (with_reducible refine LeO.ite ?_ ?_)
      | (with_reducible refine LeO.bind ?_ (fun _ => ?_))
      | exact ih0 _ _ _
      | exact ih1 _ _ _ _
      | exact colophonref04_Letter.mono _ _
      | exact colophonref04_Sign.mono _ _ _
      | exact LeO.none _
      | refine LeO.ite ?_ ?_
      | refine LeO.bind ?_ (fun _ => ?_)
    · intro y0 y1 y2 y3
      unfold colophonref10_begins.j1
      repeat' first
      | (with_reducible exact ih0 _ _ _)
      | (with_reducible exact ih1 _ _ _ _)
      | (with_reducible exact colophonref04_Letter.mono _ _)
      | (with_reducible exact colophonref04_Sign.mono _ _ _)
      | (with_reducible exact LeO.refl _)
      | (with_reducible exact LeO.none _)
      | (with_reducible refine LeO.ite ?_ ?_)
      | (with_reducible refine LeO.bind ?_ (fun _ => ?_))
      | exact ih0 _ _ _
      | exact ih1 _ _ _ _
      | exact colophonref04_Letter.mono _ _
      | exact colophonref04_Sign.mono _ _ _
      | exact LeO.none _
      | refine LeO.ite ?_ ?_
      | refine LeO.bind ?_ (fun _ => ?_)
theorem colophonref10_begins.mono : ∀ a0 a1 k, LeO (colophonref10_begins.f k a0 a1) (colophonref10_begins.f (k + 1) a0 a1) := by
  intro a0 a1 k
  obtain ⟨ih0, ih1⟩ := colophonref10_begins.mono_l k
  unfold colophonref10_begins.f
  repeat' first
      | (with_reducible exact ih0 _ _ _)
      | (with_reducible exact ih1 _ _ _ _)
      | (with_reducible exact colophonref04_Letter.mono _ _)
      | (with_reducible exact colophonref04_Sign.mono _ _ _)
      | (with_reducible exact LeO.refl _)
      | (with_reducible exact LeO.none _)
      | (with_reducible refine LeO.ite ?_ ?_)
      | (with_reducible refine LeO.bind ?_ (fun _ => ?_))
      | exact ih0 _ _ _
      | exact ih1 _ _ _ _
      | exact colophonref04_Letter.mono _ _
      | exact colophonref04_Sign.mono _ _ _
      | exact LeO.none _
      | refine LeO.ite ?_ ?_
      | refine LeO.bind ?_ (fun _ => ?_)
set_option maxHeartbeats 8000000 in
set_option maxRecDepth 100000 in
theorem colophonref10_begins.calls (k : Nat) (a0 : ByteArray) (a1 : Int) (r : Int) (w : World) (h : colophonref10_begins.f k a0 a1 = some r) :
    Calls Tryz.prog 32 #[.string a0, .int .i64 a1] w fun e w' => e = .returned (.int .u8 r) ∧ Below w.heap.size w w' := by
  have HB := Aside0.mk (Below.refl w.heap.size w)
  have H : ((colophonref01_Next.f a0 a1).bind fun bt177 => (if bt177.2.2 = true then ((colophonref04_Letter.f k bt177.1).bind fun t180 => (colophonref10_begins.j0 k a0 a1 t180)) else (colophonref10_begins.j0 k a0 a1 false))) = some r := h
  clear h
  replace H := Option.bind_eq_some_iff.mp H
  obtain ⟨⟨t177, t178, t179⟩, A30, H⟩ := H
  replace H : (if t179 = true then ((colophonref04_Letter.f k t177).bind fun t180 => (colophonref10_begins.j0 k a0 a1 t180)) else (colophonref10_begins.j0 k a0 a1 false)) = some r := H
  have A3 := Aside0.mk A30
  clear A30
  have HC4 := Aside0.mk H
  clear H
  go_enter Tryz.func32, Tryz.ntmps32
  go_upto_region 2 with (first | ((with_reducible refine gate_callee (f := 45) rfl ?_); refine goesL_ (some 13) rfl rfl Tryz.func45 (by kernel_rfl) rfl #[.string a0, .int .i64 a1] rfl (by (try simp only [List.map_toArray, List.map_cons, List.map_nil]); first | done | rfl | (simp only [List.length_drop, List.length_take]; rfl)) ?_; (with_reducible refine (colophonref01_Next.calls a0 a1 t177 t178 t179 _ A3.out).mono ?_); rintro e w5 ⟨rfl, hb⟩; refine ⟨_, rfl, ?_⟩; have n0_ := Aside0.mk (below_step (by repeat (first | (with_reducible first | exact HB.out | apply below_alloc | apply pw_below_drewN | apply below_drew1) | exact HB.out)) hb); clear HB; have HB := n0_; clear n0_; (try clear hb); (try clear hb2); (try clear hk); (try clear hi)))
  (try simp only [Act.put, List.setIfInBounds_toArray, List.set_cons_zero, List.set_cons_succ])
  go_cut [8] (fun v8 wc => ∃ (kq : Nat) (x8_3 : Bool), v8 = .bool x8_3 ∧ Aside0 (colophonref10_begins.j0 kq a0 a1 x8_3 = some r) ∧ Aside0 (kq ≤ k) ∧ Aside0 (Below w.heap.size w wc))
  case first =>
    have H := HC4.out
    clear HC4
    by_cases c6 : t179 = true
    · subst c6
      have H1 : ((colophonref04_Letter.f k t177).bind fun t180 => (colophonref10_begins.j0 k a0 a1 t180)) = some r := by rw [if_pos rfl] at H; exact H
      clear H
      have H := H1
      clear H1
      replace H := Option.bind_eq_some_iff.mp H
      obtain ⟨t180, A70, H⟩ := H
      replace H : (colophonref10_begins.j0 k a0 a1 t180) = some r := H
      have A7 := Aside0.mk A70
      clear A70
      have H' := Aside0.mk H
      clear H
      go_wp2_with (first | (go_at_call 46; (with_reducible refine (colophonref04_Letter.calls k t177 t180 _ A7.out).mono ?_); rintro e w8 ⟨rfl, hb⟩; have n0_ := Aside0.mk (below_step (by repeat (first | (with_reducible first | exact HB.out | apply below_alloc | apply pw_below_drewN | apply below_drew1) | exact HB.out)) hb); clear HB; have HB := n0_; clear n0_; (try clear hb); (try clear hb2); (try clear hk); (try clear hi)))
      go_meet
      case rel => exact ⟨_, (t180), (by first | rfl | (simp; done) | (simp [*]; done)), H', ⟨by first | omega | exact Nat.le_refl _⟩, ⟨by repeat (first | (with_reducible first | exact HB.out | apply below_alloc | apply pw_below_drewN | apply below_drew1) | exact HB.out)⟩⟩
    · replace c6 := Bool.eq_false_iff.mpr c6
      subst c6
      have H1 : (colophonref10_begins.j0 k a0 a1 false) = some r := by rw [if_neg (show ¬ (false = true) by decide)] at H; exact H
      clear H
      have H := H1
      clear H1
      have H' := Aside0.mk H
      clear H
      go_wp2
      go_meet
      case rel => exact ⟨_, (false), (by first | rfl | (simp; done) | (simp [*]; done)), H', ⟨by first | omega | exact Nat.le_refl _⟩, ⟨by repeat (first | (with_reducible first | exact HB.out | apply below_alloc | apply pw_below_drewN | apply below_drew1) | exact HB.out)⟩⟩
  case rest =>
    clear HC4
    try clear p2
    try clear c3
    try clear c4
    try clear c6
    obtain ⟨kq, x8_3, rfl, HA, HJ3, HB⟩ := hcut
    cases kq with
    | zero => exact absurd HA.out (by simp [colophonref10_begins.j0])
    | succ kj3 =>
      have H := HA.out
      clear HA
      simp only [colophonref10_begins.j0] at H
      replace H := Option.bind_eq_some_iff.mp H
      obtain ⟨t181, A90, H⟩ := H
      replace H : (if x8_3 = true then (some 1) else (if 0 ≤ a1 then (if a1 < (a0.size : Int) then ((colophonref10_digit.f (bt a0 a1)).bind fun t182 => (if t182 = true then (some 3) else (if (bt a0 a1) = 34 then (some 4) else (if (bt a0 a1) = 39 then (some 5) else (if (bt a0 a1) = 47 then (if (wrap64 (a1 + 1)) < (a0.size : Int) then (if 0 ≤ (wrap64 (a1 + 1)) then (colophonref10_begins.j1 kj3 a0 a1 t181 ((bt a0 (wrap64 (a1 + 1))) == 47)) else (none)) else (colophonref10_begins.j1 kj3 a0 a1 t181 false)) else (colophonref10_begins.j1 kj3 a0 a1 t181 false)))))) else (none)) else (none))) = some r := H
      have A9 := Aside0.mk A90
      clear A90
      by_cases c10 : x8_3 = true
      · subst c10
        have H1 : (some 1) = some r := by rw [if_pos rfl] at H; exact H
        clear H
        have H := H1
        clear H1
        obtain rfl := Option.some.inj H
        go_wp2_with (first | ((with_reducible refine gate_callee (f := 47) rfl ?_); refine goesL_ (some 24) rfl rfl Tryz.func47 (by kernel_rfl) rfl #[.string a0, .int .i64 a1] rfl (by (try simp only [List.map_toArray, List.map_cons, List.map_nil]); first | done | rfl | (simp only [List.length_drop, List.length_take]; rfl)) ?_; (with_reducible refine (colophonref04_Sign.calls kj3 a0 a1 t181 _ A9.out).mono ?_); rintro e w11 ⟨rfl, hb⟩; refine ⟨_, rfl, ?_⟩; have n0_ := Aside0.mk (below_step (by repeat (first | (with_reducible first | exact HB.out | apply below_alloc | apply pw_below_drewN | apply below_drew1) | exact HB.out)) hb); clear HB; have HB := n0_; clear n0_; (try clear hb); (try clear hb2); (try clear hk); (try clear hi)))
        go_ret
        exact ⟨by first | rfl | (simp [errW_none, errW_some] <;> rfl) | (simp [*, errW_none, errW_some] <;> rfl), by repeat (first | (with_reducible first | exact HB.out | apply below_alloc | apply pw_below_drewN | apply below_drew1) | exact HB.out)⟩
      · replace c10 := Bool.eq_false_iff.mpr c10
        subst c10
        have H1 : (if 0 ≤ a1 then (if a1 < (a0.size : Int) then ((colophonref10_digit.f (bt a0 a1)).bind fun t182 => (if t182 = true then (some 3) else (if (bt a0 a1) = 34 then (some 4) else (if (bt a0 a1) = 39 then (some 5) else (if (bt a0 a1) = 47 then (if (wrap64 (a1 + 1)) < (a0.size : Int) then (if 0 ≤ (wrap64 (a1 + 1)) then (colophonref10_begins.j1 kj3 a0 a1 t181 ((bt a0 (wrap64 (a1 + 1))) == 47)) else (none)) else (colophonref10_begins.j1 kj3 a0 a1 t181 false)) else (colophonref10_begins.j1 kj3 a0 a1 t181 false)))))) else (none)) else (none)) = some r := by rw [if_neg (show ¬ (false = true) by decide)] at H; exact H
        clear H
        have H := H1
        clear H1
        by_cases c12 : 0 ≤ a1
        · rw [if_pos c12] at H
          have c12b0 : decide (0 ≤ a1) = true := decide_eq_true c12
          clear c12
          by_cases c13 : a1 < (a0.size : Int)
          · rw [if_pos c13] at H
            have c13b0 : decide (a1 < (a0.size : Int)) = true := decide_eq_true c13
            clear c13
            replace H := Option.bind_eq_some_iff.mp H
            obtain ⟨t182, A150, H⟩ := H
            replace H : (if t182 = true then (some 3) else (if (bt a0 a1) = 34 then (some 4) else (if (bt a0 a1) = 39 then (some 5) else (if (bt a0 a1) = 47 then (if (wrap64 (a1 + 1)) < (a0.size : Int) then (if 0 ≤ (wrap64 (a1 + 1)) then (colophonref10_begins.j1 kj3 a0 a1 t181 ((bt a0 (wrap64 (a1 + 1))) == 47)) else (none)) else (colophonref10_begins.j1 kj3 a0 a1 t181 false)) else (colophonref10_begins.j1 kj3 a0 a1 t181 false))))) = some r := H
            have A15 := Aside0.mk A150
            clear A150
            by_cases c16 : t182 = true
            · subst c16
              have H1 : (some 3) = some r := by rw [if_pos rfl] at H; exact H
              clear H
              have H := H1
              clear H1
              obtain rfl := Option.some.inj H
              go_wp2_with (first | ((with_reducible refine gate_callee (f := 47) rfl ?_); refine goesL_ (some 24) rfl rfl Tryz.func47 (by kernel_rfl) rfl #[.string a0, .int .i64 a1] rfl (by (try simp only [List.map_toArray, List.map_cons, List.map_nil]); first | done | rfl | (simp only [List.length_drop, List.length_take]; rfl)) ?_; (with_reducible refine (colophonref04_Sign.calls kj3 a0 a1 t181 _ A9.out).mono ?_); rintro e w17 ⟨rfl, hb⟩; refine ⟨_, rfl, ?_⟩; have n0_ := Aside0.mk (below_step (by repeat (first | (with_reducible first | exact HB.out | apply below_alloc | apply pw_below_drewN | apply below_drew1) | exact HB.out)) hb); clear HB; have HB := n0_; clear n0_; (try clear hb); (try clear hb2); (try clear hk); (try clear hi); have p14 : 0 ≤ (a1 : Int) := of_decide_eq_true (by first | (with_reducible assumption) | assumption); have q14 : a1 < (a0.size : Int) := of_decide_eq_true (by first | (with_reducible assumption) | assumption); have hx14 := bt_at a0 a1; replace p14 := eq_true p14; replace q14 := eq_true q14) | ((with_reducible refine gate_callee (f := 48) rfl ?_); refine goesL_ (some 31) rfl rfl Tryz.func48 (by kernel_rfl) rfl #[.int .u8 (bt a0 a1)] rfl (by (try simp only [List.map_toArray, List.map_cons, List.map_nil]); first | done | rfl | (simp only [List.length_drop, List.length_take]; rfl)) ?_; (with_reducible refine (colophonref10_digit.calls (bt a0 a1) true _ A15.out).mono ?_); rintro e w' ⟨rfl, ⟨nd, rfl⟩⟩; refine ⟨_, rfl, ?_⟩))
              go_ret
              exact ⟨by first | rfl | (simp [errW_none, errW_some] <;> rfl) | (simp [*, errW_none, errW_some] <;> rfl), by repeat (first | (with_reducible first | exact HB.out | apply below_alloc | apply pw_below_drewN | apply below_drew1) | exact HB.out)⟩
            · replace c16 := Bool.eq_false_iff.mpr c16
              subst c16
              have H1 : (if (bt a0 a1) = 34 then (some 4) else (if (bt a0 a1) = 39 then (some 5) else (if (bt a0 a1) = 47 then (if (wrap64 (a1 + 1)) < (a0.size : Int) then (if 0 ≤ (wrap64 (a1 + 1)) then (colophonref10_begins.j1 kj3 a0 a1 t181 ((bt a0 (wrap64 (a1 + 1))) == 47)) else (none)) else (colophonref10_begins.j1 kj3 a0 a1 t181 false)) else (colophonref10_begins.j1 kj3 a0 a1 t181 false)))) = some r := by rw [if_neg (show ¬ (false = true) by decide)] at H; exact H
              clear H
              have H := H1
              clear H1
              by_cases c19 : (bt a0 a1) = 34
              · rw [if_pos c19] at H
                have c19b0 : ((bt a0 a1) == 34) = true := beq_iff_eq.mpr c19
                have c19b1 : ((bt a0 a1) != 34) = false := bne_eq_false_iff_eq.mpr c19
                clear c19
                obtain rfl := Option.some.inj H
                go_wp2_with (first | ((with_reducible refine gate_callee (f := 47) rfl ?_); refine goesL_ (some 24) rfl rfl Tryz.func47 (by kernel_rfl) rfl #[.string a0, .int .i64 a1] rfl (by (try simp only [List.map_toArray, List.map_cons, List.map_nil]); first | done | rfl | (simp only [List.length_drop, List.length_take]; rfl)) ?_; (with_reducible refine (colophonref04_Sign.calls kj3 a0 a1 t181 _ A9.out).mono ?_); rintro e w20 ⟨rfl, hb⟩; refine ⟨_, rfl, ?_⟩; have n0_ := Aside0.mk (below_step (by repeat (first | (with_reducible first | exact HB.out | apply below_alloc | apply pw_below_drewN | apply below_drew1) | exact HB.out)) hb); clear HB; have HB := n0_; clear n0_; (try clear hb); (try clear hb2); (try clear hk); (try clear hi); have p14 : 0 ≤ (a1 : Int) := of_decide_eq_true (by first | (with_reducible assumption) | assumption); have q14 : a1 < (a0.size : Int) := of_decide_eq_true (by first | (with_reducible assumption) | assumption); have hx14 := bt_at a0 a1; replace p14 := eq_true p14; replace q14 := eq_true q14) | ((with_reducible refine gate_callee (f := 48) rfl ?_); refine goesL_ (some 31) rfl rfl Tryz.func48 (by kernel_rfl) rfl #[.int .u8 (bt a0 a1)] rfl (by (try simp only [List.map_toArray, List.map_cons, List.map_nil]); first | done | rfl | (simp only [List.length_drop, List.length_take]; rfl)) ?_; (with_reducible refine (colophonref10_digit.calls (bt a0 a1) false _ A15.out).mono ?_); rintro e w' ⟨rfl, ⟨nd, rfl⟩⟩; refine ⟨_, rfl, ?_⟩; have p18 : 0 ≤ (a1 : Int) := of_decide_eq_true (by first | (with_reducible assumption) | assumption); have q18 : a1 < (a0.size : Int) := of_decide_eq_true (by first | (with_reducible assumption) | assumption); have hx18 := bt_at a0 a1; replace p18 := eq_true p18; replace q18 := eq_true q18))
                go_ret
                exact ⟨by first | rfl | (simp [errW_none, errW_some] <;> rfl) | (simp [*, errW_none, errW_some] <;> rfl), by repeat (first | (with_reducible first | exact HB.out | apply below_alloc | apply pw_below_drewN | apply below_drew1) | exact HB.out)⟩
              · rw [if_neg c19] at H
                have c19b0 : ((bt a0 a1) == 34) = false := beq_eq_false_iff_ne.mpr c19
                have c19b1 : ((bt a0 a1) != 34) = true := bne_iff_ne.mpr c19
                by_cases c22 : (bt a0 a1) = 39
                · rw [if_pos c22] at H
                  have c22b0 : ((bt a0 a1) == 39) = true := beq_iff_eq.mpr c22
                  have c22b1 : ((bt a0 a1) != 39) = false := bne_eq_false_iff_eq.mpr c22
                  clear c22
                  obtain rfl := Option.some.inj H
                  go_wp2_with (first | ((with_reducible refine gate_callee (f := 47) rfl ?_); refine goesL_ (some 24) rfl rfl Tryz.func47 (by kernel_rfl) rfl #[.string a0, .int .i64 a1] rfl (by (try simp only [List.map_toArray, List.map_cons, List.map_nil]); first | done | rfl | (simp only [List.length_drop, List.length_take]; rfl)) ?_; (with_reducible refine (colophonref04_Sign.calls kj3 a0 a1 t181 _ A9.out).mono ?_); rintro e w23 ⟨rfl, hb⟩; refine ⟨_, rfl, ?_⟩; have n0_ := Aside0.mk (below_step (by repeat (first | (with_reducible first | exact HB.out | apply below_alloc | apply pw_below_drewN | apply below_drew1) | exact HB.out)) hb); clear HB; have HB := n0_; clear n0_; (try clear hb); (try clear hb2); (try clear hk); (try clear hi); have p14 : 0 ≤ (a1 : Int) := of_decide_eq_true (by first | (with_reducible assumption) | assumption); have q14 : a1 < (a0.size : Int) := of_decide_eq_true (by first | (with_reducible assumption) | assumption); have hx14 := bt_at a0 a1; replace p14 := eq_true p14; replace q14 := eq_true q14) | ((with_reducible refine gate_callee (f := 48) rfl ?_); refine goesL_ (some 31) rfl rfl Tryz.func48 (by kernel_rfl) rfl #[.int .u8 (bt a0 a1)] rfl (by (try simp only [List.map_toArray, List.map_cons, List.map_nil]); first | done | rfl | (simp only [List.length_drop, List.length_take]; rfl)) ?_; (with_reducible refine (colophonref10_digit.calls (bt a0 a1) false _ A15.out).mono ?_); rintro e w' ⟨rfl, ⟨nd, rfl⟩⟩; refine ⟨_, rfl, ?_⟩; have p18 : 0 ≤ (a1 : Int) := of_decide_eq_true (by first | (with_reducible assumption) | assumption); have q18 : a1 < (a0.size : Int) := of_decide_eq_true (by first | (with_reducible assumption) | assumption); have hx18 := bt_at a0 a1; replace p18 := eq_true p18; replace q18 := eq_true q18; have p21 : 0 ≤ (a1 : Int) := of_decide_eq_true (by first | (with_reducible assumption) | assumption); have q21 : a1 < (a0.size : Int) := of_decide_eq_true (by first | (with_reducible assumption) | assumption); have hx21 := bt_at a0 a1; replace p21 := eq_true p21; replace q21 := eq_true q21))
                  go_ret
                  exact ⟨by first | rfl | (simp [errW_none, errW_some] <;> rfl) | (simp [*, errW_none, errW_some] <;> rfl), by repeat (first | (with_reducible first | exact HB.out | apply below_alloc | apply pw_below_drewN | apply below_drew1) | exact HB.out)⟩
                · rw [if_neg c22] at H
                  have c22b0 : ((bt a0 a1) == 39) = false := beq_eq_false_iff_ne.mpr c22
                  have c22b1 : ((bt a0 a1) != 39) = true := bne_iff_ne.mpr c22
                  have HC24 := Aside0.mk H
                  clear H
                  go_upto_region 12 with (first | ((with_reducible refine gate_callee (f := 47) rfl ?_); refine goesL_ (some 24) rfl rfl Tryz.func47 (by kernel_rfl) rfl #[.string a0, .int .i64 a1] rfl (by (try simp only [List.map_toArray, List.map_cons, List.map_nil]); first | done | rfl | (simp only [List.length_drop, List.length_take]; rfl)) ?_; (with_reducible refine (colophonref04_Sign.calls kj3 a0 a1 t181 _ A9.out).mono ?_); rintro e w25 ⟨rfl, hb⟩; refine ⟨_, rfl, ?_⟩; have n0_ := Aside0.mk (below_step (by repeat (first | (with_reducible first | exact HB.out | apply below_alloc | apply pw_below_drewN | apply below_drew1) | exact HB.out)) hb); clear HB; have HB := n0_; clear n0_; (try clear hb); (try clear hb2); (try clear hk); (try clear hi); have p14 : 0 ≤ (a1 : Int) := of_decide_eq_true (by first | (with_reducible assumption) | assumption); have q14 : a1 < (a0.size : Int) := of_decide_eq_true (by first | (with_reducible assumption) | assumption); have hx14 := bt_at a0 a1; replace p14 := eq_true p14; replace q14 := eq_true q14) | ((with_reducible refine gate_callee (f := 48) rfl ?_); refine goesL_ (some 31) rfl rfl Tryz.func48 (by kernel_rfl) rfl #[.int .u8 (bt a0 a1)] rfl (by (try simp only [List.map_toArray, List.map_cons, List.map_nil]); first | done | rfl | (simp only [List.length_drop, List.length_take]; rfl)) ?_; (with_reducible refine (colophonref10_digit.calls (bt a0 a1) false _ A15.out).mono ?_); rintro e w' ⟨rfl, ⟨nd, rfl⟩⟩; refine ⟨_, rfl, ?_⟩; have p18 : 0 ≤ (a1 : Int) := of_decide_eq_true (by first | (with_reducible assumption) | assumption); have q18 : a1 < (a0.size : Int) := of_decide_eq_true (by first | (with_reducible assumption) | assumption); have hx18 := bt_at a0 a1; replace p18 := eq_true p18; replace q18 := eq_true q18; have p21 : 0 ≤ (a1 : Int) := of_decide_eq_true (by first | (with_reducible assumption) | assumption); have q21 : a1 < (a0.size : Int) := of_decide_eq_true (by first | (with_reducible assumption) | assumption); have hx21 := bt_at a0 a1; replace p21 := eq_true p21; replace q21 := eq_true q21))
                  (try simp only [Act.put, List.setIfInBounds_toArray, List.set_cons_zero, List.set_cons_succ])
                  go_cut [42] (fun v42 wc => ∃ (kq : Nat) (x42_23 : Bool), v42 = .bool x42_23 ∧ Aside0 (colophonref10_begins.j1 kq a0 a1 t181 x42_23 = some r) ∧ Aside0 (kq ≤ kj3) ∧ Aside0 (Below w.heap.size w wc))
                  case first =>
                    have H := HC24.out
                    clear HC24
                    by_cases c27 : (bt a0 a1) = 47
                    · rw [if_pos c27] at H
                      have c27b0 : ((bt a0 a1) == 47) = true := beq_iff_eq.mpr c27
                      have c27b1 : ((bt a0 a1) != 47) = false := bne_eq_false_iff_eq.mpr c27
                      clear c27
                      (first | rw [c27b0] | (simp only [i64_w, i32_w]; rw [c27b0]) | skip)
                      by_cases c28 : (wrap64 (a1 + 1)) < (a0.size : Int)
                      · rw [if_pos c28] at H
                        have c28b0 : decide ((wrap64 (a1 + 1)) < (a0.size : Int)) = true := decide_eq_true c28
                        clear c28
                        obtain ⟨ji29, hji29⟩ : ∃ j_ : Int, (wrap64 (a1 + 1)) = j_ := ⟨_, rfl⟩
                        replace H : (if 0 ≤ (ji29) then (colophonref10_begins.j1 kj3 a0 a1 t181 ((bt a0 (ji29)) == 47)) else (none)) = some r := by first | (rw [hji29] at H; exact H) | (simp only [hji29] at H ⊢; exact H)
                        (try rw [hji29] at c28b0)
                        have hji29w : (IntKind.i64.wrap (a1 + 1)) = ji29 := (i64_w _).trans hji29
                        by_cases c30 : 0 ≤ (ji29)
                        · rw [if_pos c30] at H
                          have c30b0 : decide (0 ≤ (ji29)) = true := decide_eq_true c30
                          clear c30
                          have H' := Aside0.mk H
                          clear H
                          have p26 : 0 ≤ (a1 : Int) := of_decide_eq_true (by first | (with_reducible assumption) | assumption)
                          have q26 : a1 < (a0.size : Int) := of_decide_eq_true (by first | (with_reducible assumption) | assumption)
                          have hx26 := bt_at a0 a1
                          replace p26 := eq_true p26
                          replace q26 := eq_true q26
                          have p31 : 0 ≤ ((ji29) : Int) := of_decide_eq_true (by first | (with_reducible assumption) | assumption)
                          have q31 : (ji29) < (a0.size : Int) := of_decide_eq_true (by first | (with_reducible assumption) | assumption)
                          have hx31 := bt_at a0 (ji29)
                          replace p31 := eq_true p31
                          replace q31 := eq_true q31
                          go_wp2
                          go_meet
                          case rel => exact ⟨_, (((bt a0 (ji29)) == 47)), (by first | rfl | (simp; done) | (simp only [← hji29] <;> (first | rfl | simp)) | (simp [*]; done)), (by first | exact H' | (rw [hji29]; exact H')), ⟨by have := HJ3.out; first | omega | exact Nat.le_refl _⟩, ⟨by repeat (first | (with_reducible first | exact HB.out | apply below_alloc | apply pw_below_drewN | apply below_drew1) | exact HB.out)⟩⟩
                        · rw [if_neg c30] at H
                          exact absurd H (by simp)
                      · rw [if_neg c28] at H
                        have c28b0 : decide ((wrap64 (a1 + 1)) < (a0.size : Int)) = false := decide_eq_false c28
                        clear c28
                        have H' := Aside0.mk H
                        clear H
                        have p26 : 0 ≤ (a1 : Int) := of_decide_eq_true (by first | (with_reducible assumption) | assumption)
                        have q26 : a1 < (a0.size : Int) := of_decide_eq_true (by first | (with_reducible assumption) | assumption)
                        have hx26 := bt_at a0 a1
                        replace p26 := eq_true p26
                        replace q26 := eq_true q26
                        go_wp2
                        go_meet
                        case rel => exact ⟨_, (false), (by first | rfl | (simp; done) | (simp [*]; done)), (by first | exact H' | (rw [hji29]; exact H')), ⟨by have := HJ3.out; first | omega | exact Nat.le_refl _⟩, ⟨by repeat (first | (with_reducible first | exact HB.out | apply below_alloc | apply pw_below_drewN | apply below_drew1) | exact HB.out)⟩⟩
                    · rw [if_neg c27] at H
                      have c27b0 : ((bt a0 a1) == 47) = false := beq_eq_false_iff_ne.mpr c27
                      have c27b1 : ((bt a0 a1) != 47) = true := bne_iff_ne.mpr c27
                      (first | rw [c27b0] | (simp only [i64_w, i32_w]; rw [c27b0]) | skip)
                      have H' := Aside0.mk H
                      clear H
                      have p26 : 0 ≤ (a1 : Int) := of_decide_eq_true (by first | (with_reducible assumption) | assumption)
                      have q26 : a1 < (a0.size : Int) := of_decide_eq_true (by first | (with_reducible assumption) | assumption)
                      have hx26 := bt_at a0 a1
                      replace p26 := eq_true p26
                      replace q26 := eq_true q26
                      go_wp2
                      go_meet
                      case rel => exact ⟨_, (false), (by first | rfl | (simp; done) | (simp [*]; done)), (by first | exact H' | (rw [hji29]; exact H')), ⟨by have := HJ3.out; first | omega | exact Nat.le_refl _⟩, ⟨by repeat (first | (with_reducible first | exact HB.out | apply below_alloc | apply pw_below_drewN | apply below_drew1) | exact HB.out)⟩⟩
                  case rest =>
                    clear HC24
                    try clear c1
                    try clear p1
                    try clear q1
                    try clear hx1
                    try clear c2
                    try clear p2
                    try clear q2
                    try clear hx2
                    try clear c3
                    try clear p3
                    try clear q3
                    try clear hx3
                    try clear c4
                    try clear c6
                    try clear p6
                    try clear c10
                    try clear c12
                    try clear c12b0
                    try clear c13
                    try clear c13b0
                    try clear p14
                    try clear q14
                    try clear hx14
                    try clear c16
                    try clear p18
                    try clear q18
                    try clear hx18
                    try clear c19
                    try clear c19b0
                    try clear c19b1
                    try clear p21
                    try clear q21
                    try clear hx21
                    try clear c22
                    try clear c22b0
                    try clear c22b1
                    try clear p26
                    try clear q26
                    try clear hx26
                    try clear c27
                    try clear c27b0
                    try clear c27b1
                    try clear c28
                    try clear c28b0
                    try clear c30
                    try clear c30b0
                    try clear p31
                    try clear q31
                    try clear hx31
                    try clear p14
                    try clear p18
                    try clear p2
                    try clear p21
                    try clear p26
                    try clear p31
                    try clear q14
                    try clear q18
                    try clear q21
                    try clear q26
                    try clear q31
                    obtain ⟨kq, x42_23, rfl, HA, HJ23, HB⟩ := hcut
                    cases kq with
                    | zero => exact absurd HA.out (by simp [colophonref10_begins.j1])
                    | succ kj23 =>
                      have H := HA.out
                      clear HA
                      simp only [colophonref10_begins.j1] at H
                      by_cases c32 : x42_23 = true
                      · subst c32
                        have H1 : (some 7) = some r := by rw [if_pos rfl] at H; exact H
                        clear H
                        have H := H1
                        clear H1
                        obtain rfl := Option.some.inj H
                        go_wp2
                        go_ret
                        exact ⟨by first | rfl | (simp [errW_none, errW_some] <;> rfl) | (simp [*, errW_none, errW_some] <;> rfl), by repeat (first | (with_reducible first | exact HB.out | apply below_alloc | apply pw_below_drewN | apply below_drew1) | exact HB.out)⟩
                      · replace c32 := Bool.eq_false_iff.mpr c32
                        subst c32
                        have H1 : (if 0 ≤ a1 then (if a1 < (a0.size : Int) then (if (bt a0 a1) = 123 then (some 8) else (if t181.toList = ([] : List UInt8) then (some 0) else (some 6))) else (none)) else (none)) = some r := by rw [if_neg (show ¬ (false = true) by decide)] at H; exact H
                        clear H
                        have H := H1
                        clear H1
                        by_cases c33 : 0 ≤ a1
                        · rw [if_pos c33] at H
                          have c33b0 : decide (0 ≤ a1) = true := decide_eq_true c33
                          clear c33
                          by_cases c34 : a1 < (a0.size : Int)
                          · rw [if_pos c34] at H
                            have c34b0 : decide (a1 < (a0.size : Int)) = true := decide_eq_true c34
                            clear c34
                            by_cases c36 : (bt a0 a1) = 123
                            · rw [if_pos c36] at H
                              have c36b0 : ((bt a0 a1) == 123) = true := beq_iff_eq.mpr c36
                              have c36b1 : ((bt a0 a1) != 123) = false := bne_eq_false_iff_eq.mpr c36
                              clear c36
                              obtain rfl := Option.some.inj H
                              have p35 : 0 ≤ (a1 : Int) := of_decide_eq_true (by first | (with_reducible assumption) | assumption)
                              have q35 : a1 < (a0.size : Int) := of_decide_eq_true (by first | (with_reducible assumption) | assumption)
                              have hx35 := bt_at a0 a1
                              replace p35 := eq_true p35
                              replace q35 := eq_true q35
                              go_wp2
                              go_ret
                              exact ⟨by first | rfl | (simp [errW_none, errW_some] <;> rfl) | (simp [*, errW_none, errW_some] <;> rfl), by repeat (first | (with_reducible first | exact HB.out | apply below_alloc | apply pw_below_drewN | apply below_drew1) | exact HB.out)⟩
                            · rw [if_neg c36] at H
                              have c36b0 : ((bt a0 a1) == 123) = false := beq_eq_false_iff_ne.mpr c36
                              have c36b1 : ((bt a0 a1) != 123) = true := bne_iff_ne.mpr c36
                              by_cases c37 : t181.toList = ([] : List UInt8)
                              · rw [if_pos c37] at H
                                have c37b0 : (t181.toList == ([] : List UInt8)) = true := beq_iff_eq.mpr c37
                                have c37b1 : (t181.toList != ([] : List UInt8)) = false := bne_eq_false_iff_eq.mpr c37
                                clear c37
                                obtain rfl := Option.some.inj H
                                have p35 : 0 ≤ (a1 : Int) := of_decide_eq_true (by first | (with_reducible assumption) | assumption)
                                have q35 : a1 < (a0.size : Int) := of_decide_eq_true (by first | (with_reducible assumption) | assumption)
                                have hx35 := bt_at a0 a1
                                replace p35 := eq_true p35
                                replace q35 := eq_true q35
                                go_wp2
                                go_ret
                                exact ⟨by first | rfl | (simp [errW_none, errW_some] <;> rfl) | (simp [*, errW_none, errW_some] <;> rfl), by repeat (first | (with_reducible first | exact HB.out | apply below_alloc | apply pw_below_drewN | apply below_drew1) | exact HB.out)⟩
                              · rw [if_neg c37] at H
                                have c37b0 : (t181.toList == ([] : List UInt8)) = false := beq_eq_false_iff_ne.mpr c37
                                have c37b1 : (t181.toList != ([] : List UInt8)) = true := bne_iff_ne.mpr c37
                                obtain rfl := Option.some.inj H
                                have p35 : 0 ≤ (a1 : Int) := of_decide_eq_true (by first | (with_reducible assumption) | assumption)
                                have q35 : a1 < (a0.size : Int) := of_decide_eq_true (by first | (with_reducible assumption) | assumption)
                                have hx35 := bt_at a0 a1
                                replace p35 := eq_true p35
                                replace q35 := eq_true q35
                                go_wp2
                                go_ret
                                exact ⟨by first | rfl | (simp [errW_none, errW_some] <;> rfl) | (simp [*, errW_none, errW_some] <;> rfl), by repeat (first | (with_reducible first | exact HB.out | apply below_alloc | apply pw_below_drewN | apply below_drew1) | exact HB.out)⟩
                          · rw [if_neg c34] at H
                            exact absurd H (by simp)
                        · rw [if_neg c33] at H
                          exact absurd H (by simp)
          · rw [if_neg c13] at H
            exact absurd H (by simp)
        · rw [if_neg c12] at H
          exact absurd H (by simp)

/-! ### colophonref10_control: function 79 -/
def colophonref10_control.f (a0 : Int) (a1 : Bool) : Option (Bool) := if a1 = true then (if a0 < 32 then (some true) else (some (a0 == 127))) else (some false)
set_option maxHeartbeats 8000000 in
set_option maxRecDepth 100000 in
theorem colophonref10_control.calls (a0 : Int) (a1 : Bool) (r : Bool) (w : World) (h : colophonref10_control.f a0 a1 = some r) :
    Calls Tryz.prog 79 #[.int .i64 a0, .bool a1] w fun e w' => e = .returned (.bool r) ∧ Drawn0 w w' := by
  have H : (if a1 = true then (if a0 < 32 then (some true) else (some (a0 == 127))) else (some false)) = some r := h
  clear h
  by_cases c3 : a1 = true
  · subst c3
    have H1 : (if a0 < 32 then (some true) else (some (a0 == 127))) = some r := by rw [if_pos rfl] at H; exact H
    clear H
    have H := H1
    clear H1
    by_cases c4 : a0 < 32
    · rw [if_pos c4] at H
      have c4b0 : decide (a0 < 32) = true := decide_eq_true c4
      clear c4
      obtain rfl := Option.some.inj H
      go_enter Tryz.func79, Tryz.ntmps79
      go_wp2
      go_ret
      exact ⟨by first | rfl | (simp; done) | (simp [*]; done), by repeat (first | exact Drawn0.refl _ | apply Drawn0.step)⟩
    · rw [if_neg c4] at H
      have c4b0 : decide (a0 < 32) = false := decide_eq_false c4
      clear c4
      obtain rfl := Option.some.inj H
      go_enter Tryz.func79, Tryz.ntmps79
      go_wp2
      go_ret
      exact ⟨by first | rfl | (simp; done) | (simp [*]; done), by repeat (first | exact Drawn0.refl _ | apply Drawn0.step)⟩
  · replace c3 := Bool.eq_false_iff.mpr c3
    subst c3
    have H1 : (some false) = some r := by rw [if_neg (show ¬ (false = true) by decide)] at H; exact H
    clear H
    have H := H1
    clear H1
    obtain rfl := Option.some.inj H
    go_enter Tryz.func79, Tryz.ntmps79
    go_wp2
    go_ret
    exact ⟨by first | rfl | (simp; done) | (simp [*]; done), by repeat (first | exact Drawn0.refl _ | apply Drawn0.step)⟩

/-! ### colophonref10_quoted: function 49 -/
mutual
def colophonref10_quoted.l0 : Nat → ByteArray → Int → Int → Bool → Int → Int → Option (Int × Int)
  | 0, _, _, _, _, _, _ => none
  | k + 1, x0, x1, x2, x3, x9, x10 => if x9 < (x0.size : Int) then (if 0 ≤ x9 then (colophonref10_quoted.j1 k x0 x1 x2 x3 x9 x10 ((bt x0 x9) != 10)) else (none)) else (colophonref10_quoted.j1 k x0 x1 x2 x3 x9 x10 false)
def colophonref10_quoted.j1 : Nat → ByteArray → Int → Int → Bool → Int → Int → Bool → Option (Int × Int)
  | 0, _, _, _, _, _, _, _ => none
  | k + 1, x0, x1, x2, x3, x9, x10, x27 => if x27 = true then ((colophonref01_Next.f x0 x9).bind fun bt184 => (if 0 ≤ x9 then (if x9 < (x0.size : Int) then (if (bt x0 x9) = x2 then (if x3 = true then (colophonref10_quoted.j2 k x0 x1 x2 x3 x9 x10 bt184.1 bt184.2.1 bt184.2.2 (x10 == 1)) else (colophonref10_quoted.j2 k x0 x1 x2 x3 x9 x10 bt184.1 bt184.2.1 bt184.2.2 true)) else (colophonref10_quoted.j2 k x0 x1 x2 x3 x9 x10 bt184.1 bt184.2.1 bt184.2.2 false)) else (none)) else (none))) else (some (x1, 101))
def colophonref10_quoted.j2 : Nat → ByteArray → Int → Int → Bool → Int → Int → Int → Int → Bool → Bool → Option (Int × Int)
  | 0, _, _, _, _, _, _, _, _, _, _ => none
  | k + 1, x0, x1, x2, x3, x9, x10, x11, x12, x13, x14 => (colophonref10_control.f x11 x13).bind fun t187 => (if (wrap64 ((wrap64 (x9 + x12)) - x1)) > 65535 then (some (x1, 103)) else (if x14 = true then (some (wrap64 (x9 + 1), 0)) else (if t187 = true then (some (x9, 102)) else (if x3 = true then (if x10 = 1 then (some (x9, 102)) else (if 0 ≤ x9 then (if x9 < (x0.size : Int) then (if (bt x0 x9) = x2 then (some (x9, 102)) else (colophonref10_quoted.l0 k x0 x1 x2 x3 (wrap64 (x9 + x12)) (wrap64 (x10 + 1)))) else (none)) else (none))) else (colophonref10_quoted.l0 k x0 x1 x2 x3 (wrap64 (x9 + x12)) (wrap64 (x10 + 1)))))))
end
def colophonref10_quoted.f (k : Nat) (a0 : ByteArray) (a1 : Int) (a2 : Int) (a3 : Bool) : Option (Int × Int) := colophonref10_quoted.l0 k a0 a1 a2 a3 (wrap64 (a1 + 1)) 0
theorem colophonref10_quoted.mono_l : ∀ k, (∀ y0 y1 y2 y3 y4 y5, LeO (colophonref10_quoted.l0 k y0 y1 y2 y3 y4 y5) (colophonref10_quoted.l0 (k + 1) y0 y1 y2 y3 y4 y5)) ∧ (∀ y0 y1 y2 y3 y4 y5 y6, LeO (colophonref10_quoted.j1 k y0 y1 y2 y3 y4 y5 y6) (colophonref10_quoted.j1 (k + 1) y0 y1 y2 y3 y4 y5 y6)) ∧ (∀ y0 y1 y2 y3 y4 y5 y6 y7 y8 y9, LeO (colophonref10_quoted.j2 k y0 y1 y2 y3 y4 y5 y6 y7 y8 y9) (colophonref10_quoted.j2 (k + 1) y0 y1 y2 y3 y4 y5 y6 y7 y8 y9))
  | 0 => ⟨fun _ _ _ _ _ _ r h => by simp [colophonref10_quoted.l0] at h, fun _ _ _ _ _ _ _ r h => by simp [colophonref10_quoted.j1] at h, fun _ _ _ _ _ _ _ _ _ _ r h => by simp [colophonref10_quoted.j2] at h⟩
  | k + 1 => by
    obtain ⟨ih0, ih1, ih2⟩ := colophonref10_quoted.mono_l k
    refine ⟨?_, ?_, ?_⟩
    · intro y0 y1 y2 y3 y4 y5
      unfold colophonref10_quoted.l0
      repeat' first
      | (with_reducible exact ih0 _ _ _ _ _ _)
      | (with_reducible exact ih1 _ _ _ _ _ _ _)
      | (with_reducible exact ih2 _ _ _ _ _ _ _ _ _ _)
      | (with_reducible exact LeO.refl _)
      | (with_reducible exact LeO.none _)
      | (with_reducible refine LeO.ite ?_ ?_)
      | (with_reducible refine LeO.bind ?_ (fun _ => ?_))
      | exact ih0 _ _ _ _ _ _
      | exact ih1 _ _ _ _ _ _ _
      | exact ih2 _ _ _ _ _ _ _ _ _ _
      | exact LeO.none _
      | refine LeO.ite ?_ ?_
      | refine LeO.bind ?_ (fun _ => ?_)
    · intro y0 y1 y2 y3 y4 y5 y6
      unfold colophonref10_quoted.j1
      repeat' first
      | (with_reducible exact ih0 _ _ _ _ _ _)
      | (with_reducible exact ih1 _ _ _ _ _ _ _)
      | (with_reducible exact ih2 _ _ _ _ _ _ _ _ _ _)
      | (with_reducible exact LeO.refl _)
      | (with_reducible exact LeO.none _)
      | (with_reducible refine LeO.ite ?_ ?_)
      | (with_reducible refine LeO.bind ?_ (fun _ => ?_))
      | exact ih0 _ _ _ _ _ _
      | exact ih1 _ _ _ _ _ _ _
      | exact ih2 _ _ _ _ _ _ _ _ _ _
      | exact LeO.none _
      | refine LeO.ite ?_ ?_
      | refine LeO.bind ?_ (fun _ => ?_)
    · intro y0 y1 y2 y3 y4 y5 y6 y7 y8 y9
      unfold colophonref10_quoted.j2
      repeat' first
      | (with_reducible exact ih0 _ _ _ _ _ _)
      | (with_reducible exact ih1 _ _ _ _ _ _ _)
      | (with_reducible exact ih2 _ _ _ _ _ _ _ _ _ _)
      | (with_reducible exact LeO.refl _)
      | (with_reducible exact LeO.none _)
      | (with_reducible refine LeO.ite ?_ ?_)
      | (with_reducible refine LeO.bind ?_ (fun _ => ?_))
      | exact ih0 _ _ _ _ _ _
      | exact ih1 _ _ _ _ _ _ _
      | exact ih2 _ _ _ _ _ _ _ _ _ _
      | exact LeO.none _
      | refine LeO.ite ?_ ?_
      | refine LeO.bind ?_ (fun _ => ?_)
theorem colophonref10_quoted.mono : ∀ a0 a1 a2 a3 k, LeO (colophonref10_quoted.f k a0 a1 a2 a3) (colophonref10_quoted.f (k + 1) a0 a1 a2 a3) := by
  intro a0 a1 a2 a3 k
  obtain ⟨ih0, ih1, ih2⟩ := colophonref10_quoted.mono_l k
  unfold colophonref10_quoted.f
  repeat' first
      | (with_reducible exact ih0 _ _ _ _ _ _)
      | (with_reducible exact ih1 _ _ _ _ _ _ _)
      | (with_reducible exact ih2 _ _ _ _ _ _ _ _ _ _)
      | (with_reducible exact LeO.refl _)
      | (with_reducible exact LeO.none _)
      | (with_reducible refine LeO.ite ?_ ?_)
      | (with_reducible refine LeO.bind ?_ (fun _ => ?_))
      | exact ih0 _ _ _ _ _ _
      | exact ih1 _ _ _ _ _ _ _
      | exact ih2 _ _ _ _ _ _ _ _ _ _
      | exact LeO.none _
      | refine LeO.ite ?_ ?_
      | refine LeO.bind ?_ (fun _ => ?_)
set_option maxHeartbeats 8000000 in
set_option maxRecDepth 100000 in
theorem colophonref10_quoted.calls (k : Nat) (a0 : ByteArray) (a1 : Int) (a2 : Int) (a3 : Bool) (r1 : Int) (r2 : Int) (w : World) (h : colophonref10_quoted.f k a0 a1 a2 a3 = some (r1, r2)) :
    Calls Tryz.prog 49 #[.string a0, .int .i64 a1, .int .u8 a2, .bool a3] w fun e w' => e = .returned (.agg #[.int .i64 r1, .int .i64 r2]) ∧ Below w.heap.size w w' := by
  have hu90 := Tryz.underlying90
  have HB := Aside0.mk (Below.refl w.heap.size w)
  have H : (colophonref10_quoted.l0 k a0 a1 a2 a3 (wrap64 (a1 + 1)) 0) = some (r1, r2) := h
  clear h
  have H' := Aside0.mk H
  clear H
  go_enter Tryz.func49, Tryz.ntmps49
  go_wp2_with (first | ((with_reducible refine gate_dst (N := 8) rfl ?_); refine box_event ?hg (N := 8) ?hd (cs := #[.int .i64 0, .int .i64 0]) (t := 90) ?hr ?_; (case hd => rfl); (case hg => rfl); (case hr => first | (go_simp; done) | (go_simp; rfl)); intro gb183 hg w5 hbox hb; have n0_ := Aside0.mk (below_step (by repeat (first | (with_reducible first | exact HB.out | apply below_alloc | apply pw_below_drewN | apply below_drew1) | exact HB.out)) hb); have n1_ := Aside0.mk (hbox); have n2_ := Aside0.mk ((by rw [hg]; exact (below_size (by repeat (first | (with_reducible first | exact HB.out | apply below_alloc | apply pw_below_drewN | apply below_drew1) | exact HB.out))) : w.heap.size ≤ gb183)); have n3_ := Aside0.mk ((by rw [hg]; exact (below_size (by repeat (first | (with_reducible first | exact HB.out | apply below_alloc | apply pw_below_drewN | apply below_drew1) | exact HB.out))) : w.heap.size ≤ gb183)); clear HB; have HB := n0_; have BK183 := n1_; have GW183 := n2_; have GE183 := n3_; clear n0_ n1_ n2_ n3_; clear hb hbox hg))
  go_loopg [9, 10] k (fun kq v9 v10 w' => ∃ (x9_1 : Int) (x10_1 : Int) (x184000_1 : Int) (x184001_1 : Int), v9 = .int .i64 x9_1 ∧ v10 = .int .i64 x10_1 ∧ Aside0 (colophonref10_quoted.l0 kq a0 a1 a2 a3 x9_1 x10_1 = some (r1, r2)) ∧ Aside0 (kq ≤ k) ∧ Aside0 (w'.heap[gb183]? = some (.cells #[.int .i64 x184000_1, .int .i64 x184001_1] 90 (0, 0))) ∧ Aside0 (Below w.heap.size w w'))
  case atStart => exact ⟨(wrap64 (a1 + 1)), (0), (0), (0), (by first | rfl | (simp; done) | (simp [*]; done)), (by first | rfl | (simp; done) | (simp [*]; done)), H', ⟨Nat.le_refl _⟩, ⟨by (with_reducible repeat (first | refine blk_drewN ?_ _ | refine blk_drew ?_ | refine blk_alloc ?_ _)); exact BK183.out⟩, ⟨by repeat (first | (with_reducible first | exact HB.out | apply below_alloc | apply pw_below_drewN | apply below_drew1 | refine below_set ?_ GE183.out) | exact HB.out)⟩⟩
  case round =>
    clear H'
    try clear p2
    try clear c4
    obtain ⟨x9_1, x10_1, x184000_1, x184001_1, rfl, rfl, HA, HK1, BK183, HB⟩ := hrel
    cases gk with
    | zero => exact absurd HA.out (by simp [colophonref10_quoted.l0])
    | succ k1 =>
      have H := HA.out
      clear HA
      simp only [colophonref10_quoted.l0] at H
      have HC6 := Aside0.mk H
      clear H
      go_upto_region 3 with (fail)
      go_cut [27] (fun v27 wc => ∃ (kq : Nat) (x27_5 : Bool), v27 = .bool x27_5 ∧ Aside0 (colophonref10_quoted.j1 kq a0 a1 a2 a3 x9_1 x10_1 x27_5 = some (r1, r2)) ∧ Aside0 (kq ≤ k1) ∧ Aside0 (wc.heap[gb183]? = some (.cells #[.int .i64 x184000_1, .int .i64 x184001_1] 90 (0, 0))) ∧ Aside0 (Below w.heap.size w wc))
      case first =>
        have H := HC6.out
        clear HC6
        by_cases c7 : x9_1 < (a0.size : Int)
        · rw [if_pos c7] at H
          have c7b0 : decide (x9_1 < (a0.size : Int)) = true := decide_eq_true c7
          clear c7
          (first | rw [c7b0] | (simp only [i64_w, i32_w]; rw [c7b0]) | skip)
          by_cases c8 : 0 ≤ x9_1
          · rw [if_pos c8] at H
            have c8b0 : decide (0 ≤ x9_1) = true := decide_eq_true c8
            clear c8
            have H' := Aside0.mk H
            clear H
            have p9 : 0 ≤ (x9_1 : Int) := of_decide_eq_true (by first | (with_reducible assumption) | assumption)
            have q9 : x9_1 < (a0.size : Int) := of_decide_eq_true (by first | (with_reducible assumption) | assumption)
            have hx9 := bt_at a0 x9_1
            replace p9 := eq_true p9
            replace q9 := eq_true q9
            go_wp2
            go_meet
            case rel => exact ⟨_, (((bt a0 x9_1) != 10)), (by first | rfl | (simp; done) | (simp [*]; done)), H', ⟨by have := HK1.out; first | omega | exact Nat.le_refl _⟩, ⟨by (with_reducible repeat (first | refine blk_drewN ?_ _ | refine blk_drew ?_ | refine blk_alloc ?_ _)); exact BK183.out⟩, ⟨by repeat (first | (with_reducible first | exact HB.out | apply below_alloc | apply pw_below_drewN | apply below_drew1 | refine below_set ?_ GE183.out) | exact HB.out)⟩⟩
          · rw [if_neg c8] at H
            exact absurd H (by simp)
        · rw [if_neg c7] at H
          have c7b0 : decide (x9_1 < (a0.size : Int)) = false := decide_eq_false c7
          clear c7
          (first | rw [c7b0] | (simp only [i64_w, i32_w]; rw [c7b0]) | skip)
          have H' := Aside0.mk H
          clear H
          go_wp2
          go_meet
          case rel => exact ⟨_, (false), (by first | rfl | (simp; done) | (simp [*]; done)), H', ⟨by have := HK1.out; first | omega | exact Nat.le_refl _⟩, ⟨by (with_reducible repeat (first | refine blk_drewN ?_ _ | refine blk_drew ?_ | refine blk_alloc ?_ _)); exact BK183.out⟩, ⟨by repeat (first | (with_reducible first | exact HB.out | apply below_alloc | apply pw_below_drewN | apply below_drew1 | refine below_set ?_ GE183.out) | exact HB.out)⟩⟩
      case rest =>
        clear HC6
        try clear p2
        try clear c4
        try clear p6
        try clear c7
        try clear c7b0
        try clear c8
        try clear c8b0
        try clear p9
        try clear q9
        try clear hx9
        try clear p2
        try clear p9
        try clear q9
        obtain ⟨kq, x27_5, rfl, HA, HJ5, BK183, HB⟩ := hcut
        cases kq with
        | zero => exact absurd HA.out (by simp [colophonref10_quoted.j1])
        | succ kj5 =>
          have H := HA.out
          clear HA
          simp only [colophonref10_quoted.j1] at H
          by_cases c10 : x27_5 = true
          · subst c10
            have H1 : ((colophonref01_Next.f a0 x9_1).bind fun bt184 => (if 0 ≤ x9_1 then (if x9_1 < (a0.size : Int) then (if (bt a0 x9_1) = a2 then (if a3 = true then (colophonref10_quoted.j2 kj5 a0 a1 a2 a3 x9_1 x10_1 bt184.1 bt184.2.1 bt184.2.2 (x10_1 == 1)) else (colophonref10_quoted.j2 kj5 a0 a1 a2 a3 x9_1 x10_1 bt184.1 bt184.2.1 bt184.2.2 true)) else (colophonref10_quoted.j2 kj5 a0 a1 a2 a3 x9_1 x10_1 bt184.1 bt184.2.1 bt184.2.2 false)) else (none)) else (none))) = some (r1, r2) := by rw [if_pos rfl] at H; exact H
            clear H
            have H := H1
            clear H1
            replace H := Option.bind_eq_some_iff.mp H
            obtain ⟨⟨t184, t185, t186⟩, A110, H⟩ := H
            replace H : (if 0 ≤ x9_1 then (if x9_1 < (a0.size : Int) then (if (bt a0 x9_1) = a2 then (if a3 = true then (colophonref10_quoted.j2 kj5 a0 a1 a2 a3 x9_1 x10_1 t184 t185 t186 (x10_1 == 1)) else (colophonref10_quoted.j2 kj5 a0 a1 a2 a3 x9_1 x10_1 t184 t185 t186 true)) else (colophonref10_quoted.j2 kj5 a0 a1 a2 a3 x9_1 x10_1 t184 t185 t186 false)) else (none)) else (none)) = some (r1, r2) := H
            have A11 := Aside0.mk A110
            clear A110
            have HC12 := Aside0.mk H
            clear H
            go_upto_region 6 with (first | ((with_reducible refine gate_callee (f := 45) rfl ?_); refine goesL_ (some 33) rfl rfl Tryz.func45 (by kernel_rfl) rfl #[.string a0, .int .i64 x9_1] rfl (by (try simp only [List.map_toArray, List.map_cons, List.map_nil]); first | done | rfl | (simp only [List.length_drop, List.length_take]; rfl)) ?_; (with_reducible refine (colophonref01_Next.calls a0 x9_1 t184 t185 t186 _ A11.out).mono ?_); rintro e w13 ⟨rfl, hb⟩; refine ⟨_, rfl, ?_⟩; have n0_ := Aside0.mk (blk_below (g := gb183) (o := .cells #[.int .i64 x184000_1, .int .i64 x184001_1] 90 (0, 0)) (by (with_reducible repeat (first | refine blk_drewN ?_ _ | refine blk_drew ?_ | refine blk_alloc ?_ _)); exact BK183.out) hb); have n1_ := Aside0.mk (below_step (by repeat (first | (with_reducible first | exact HB.out | apply below_alloc | apply pw_below_drewN | apply below_drew1 | refine below_set ?_ GE183.out) | exact HB.out)) hb); clear BK183; clear HB; have BK183 := n0_; have HB := n1_; clear n0_ n1_; (try clear hb); (try clear hb2); (try clear hk); (try clear hi)))
            (try simp only [Act.put, List.setIfInBounds_toArray, List.set_cons_zero, List.set_cons_succ])
            go_cut [14] (fun v14 wc => ∃ (kq : Nat) (x14_11 : Bool), v14 = .bool x14_11 ∧ Aside0 (colophonref10_quoted.j2 kq a0 a1 a2 a3 x9_1 x10_1 t184 t185 t186 x14_11 = some (r1, r2)) ∧ Aside0 (kq ≤ kj5) ∧ Aside0 (wc.heap[gb183]? = some (.cells #[.int .i64 x184000_1, .int .i64 x184001_1] 90 (0, 0))) ∧ Aside0 (Below w.heap.size w wc))
            case first =>
              have H := HC12.out
              clear HC12
              by_cases c14 : 0 ≤ x9_1
              · rw [if_pos c14] at H
                have c14b0 : decide (0 ≤ x9_1) = true := decide_eq_true c14
                clear c14
                (first | rw [c14b0] | (simp only [i64_w, i32_w]; rw [c14b0]) | skip)
                by_cases c15 : x9_1 < (a0.size : Int)
                · rw [if_pos c15] at H
                  have c15b0 : decide (x9_1 < (a0.size : Int)) = true := decide_eq_true c15
                  clear c15
                  by_cases c17 : (bt a0 x9_1) = a2
                  · rw [if_pos c17] at H
                    have c17b0 : ((bt a0 x9_1) == a2) = true := beq_iff_eq.mpr c17
                    have c17b1 : ((bt a0 x9_1) != a2) = false := bne_eq_false_iff_eq.mpr c17
                    clear c17
                    by_cases c18 : a3 = true
                    · subst c18
                      have H1 : (colophonref10_quoted.j2 kj5 a0 a1 a2 true x9_1 x10_1 t184 t185 t186 (x10_1 == 1)) = some (r1, r2) := by rw [if_pos rfl] at H; exact H
                      clear H
                      have H := H1
                      clear H1
                      have H' := Aside0.mk H
                      clear H
                      have p16 : 0 ≤ (x9_1 : Int) := of_decide_eq_true (by first | (with_reducible assumption) | assumption)
                      have q16 : x9_1 < (a0.size : Int) := of_decide_eq_true (by first | (with_reducible assumption) | assumption)
                      have hx16 := bt_at a0 x9_1
                      replace p16 := eq_true p16
                      replace q16 := eq_true q16
                      go_wp2
                      go_meet
                      case rel => exact ⟨_, ((x10_1 == 1)), (by first | rfl | (simp; done) | (simp [*]; done)), H', ⟨by have := HK1.out; have := HJ5.out; first | omega | exact Nat.le_refl _⟩, ⟨by (with_reducible repeat (first | refine blk_drewN ?_ _ | refine blk_drew ?_ | refine blk_alloc ?_ _)); exact BK183.out⟩, ⟨by repeat (first | (with_reducible first | exact HB.out | apply below_alloc | apply pw_below_drewN | apply below_drew1 | refine below_set ?_ GE183.out) | exact HB.out)⟩⟩
                    · replace c18 := Bool.eq_false_iff.mpr c18
                      subst c18
                      have H1 : (colophonref10_quoted.j2 kj5 a0 a1 a2 false x9_1 x10_1 t184 t185 t186 true) = some (r1, r2) := by rw [if_neg (show ¬ (false = true) by decide)] at H; exact H
                      clear H
                      have H := H1
                      clear H1
                      have H' := Aside0.mk H
                      clear H
                      have p16 : 0 ≤ (x9_1 : Int) := of_decide_eq_true (by first | (with_reducible assumption) | assumption)
                      have q16 : x9_1 < (a0.size : Int) := of_decide_eq_true (by first | (with_reducible assumption) | assumption)
                      have hx16 := bt_at a0 x9_1
                      replace p16 := eq_true p16
                      replace q16 := eq_true q16
                      go_wp2
                      go_meet
                      case rel => exact ⟨_, (true), (by first | rfl | (simp; done) | (simp [*]; done)), H', ⟨by have := HK1.out; have := HJ5.out; first | omega | exact Nat.le_refl _⟩, ⟨by (with_reducible repeat (first | refine blk_drewN ?_ _ | refine blk_drew ?_ | refine blk_alloc ?_ _)); exact BK183.out⟩, ⟨by repeat (first | (with_reducible first | exact HB.out | apply below_alloc | apply pw_below_drewN | apply below_drew1 | refine below_set ?_ GE183.out) | exact HB.out)⟩⟩
                  · rw [if_neg c17] at H
                    have c17b0 : ((bt a0 x9_1) == a2) = false := beq_eq_false_iff_ne.mpr c17
                    have c17b1 : ((bt a0 x9_1) != a2) = true := bne_iff_ne.mpr c17
                    have H' := Aside0.mk H
                    clear H
                    have p16 : 0 ≤ (x9_1 : Int) := of_decide_eq_true (by first | (with_reducible assumption) | assumption)
                    have q16 : x9_1 < (a0.size : Int) := of_decide_eq_true (by first | (with_reducible assumption) | assumption)
                    have hx16 := bt_at a0 x9_1
                    replace p16 := eq_true p16
                    replace q16 := eq_true q16
                    go_wp2
                    go_meet
                    case rel => exact ⟨_, (false), (by first | rfl | (simp; done) | (simp [*]; done)), H', ⟨by have := HK1.out; have := HJ5.out; first | omega | exact Nat.le_refl _⟩, ⟨by (with_reducible repeat (first | refine blk_drewN ?_ _ | refine blk_drew ?_ | refine blk_alloc ?_ _)); exact BK183.out⟩, ⟨by repeat (first | (with_reducible first | exact HB.out | apply below_alloc | apply pw_below_drewN | apply below_drew1 | refine below_set ?_ GE183.out) | exact HB.out)⟩⟩
                · rw [if_neg c15] at H
                  exact absurd H (by simp)
              · rw [if_neg c14] at H
                exact absurd H (by simp)
            case rest =>
              clear HC12
              try clear c1
              try clear p1
              try clear q1
              try clear hx1
              try clear p2
              try clear c4
              try clear p6
              try clear c7
              try clear c7b0
              try clear c8
              try clear c8b0
              try clear p9
              try clear q9
              try clear hx9
              try clear c10
              try clear c14
              try clear c14b0
              try clear c15
              try clear c15b0
              try clear p16
              try clear q16
              try clear hx16
              try clear c17
              try clear c17b0
              try clear c17b1
              try clear c18
              try clear p16
              try clear p2
              try clear p6
              try clear p9
              try clear q16
              try clear q9
              obtain ⟨kq, x14_11, rfl, HA, HJ11, BK183, HB⟩ := hcut
              cases kq with
              | zero => exact absurd HA.out (by simp [colophonref10_quoted.j2])
              | succ kj11 =>
                have H := HA.out
                clear HA
                simp only [colophonref10_quoted.j2] at H
                replace H := Option.bind_eq_some_iff.mp H
                obtain ⟨t187, A190, H⟩ := H
                replace H : (if (wrap64 ((wrap64 (x9_1 + t185)) - a1)) > 65535 then (some (a1, 103)) else (if x14_11 = true then (some (wrap64 (x9_1 + 1), 0)) else (if t187 = true then (some (x9_1, 102)) else (if a3 = true then (if x10_1 = 1 then (some (x9_1, 102)) else (if 0 ≤ x9_1 then (if x9_1 < (a0.size : Int) then (if (bt a0 x9_1) = a2 then (some (x9_1, 102)) else (colophonref10_quoted.l0 kj11 a0 a1 a2 a3 (wrap64 (x9_1 + t185)) (wrap64 (x10_1 + 1)))) else (none)) else (none))) else (colophonref10_quoted.l0 kj11 a0 a1 a2 a3 (wrap64 (x9_1 + t185)) (wrap64 (x10_1 + 1))))))) = some (r1, r2) := H
                have A19 := Aside0.mk A190
                clear A190
                by_cases c20 : (wrap64 ((wrap64 (x9_1 + t185)) - a1)) > 65535
                · rw [if_pos c20] at H
                  have c20b0 : decide (65535 < (wrap64 ((wrap64 (x9_1 + t185)) - a1))) = true := decide_eq_true c20
                  clear c20
                  simp only [Option.some.injEq, Prod.mk.injEq] at H
                  obtain ⟨rfl, rfl⟩ := H
                  go_wp2_with (first | ((with_reducible refine gate_callee (f := 79) rfl ?_); refine goesL_ (some 52) rfl rfl Tryz.func79 (by kernel_rfl) rfl #[.int .i64 t184, .bool t186] rfl (by (try simp only [List.map_toArray, List.map_cons, List.map_nil]); first | done | rfl | (simp only [List.length_drop, List.length_take]; rfl)) ?_; (with_reducible refine (colophonref10_control.calls t184 t186 t187 _ A19.out).mono ?_); rintro e w' ⟨rfl, ⟨nd, rfl⟩⟩; refine ⟨_, rfl, ?_⟩; (try (rw [drewN_self wc]; generalize hq_ : World.drewN wc _ = wc; have n0_ : Aside0 (wc.heap[gb183]? = some (.cells #[.int .i64 x184000_1, .int .i64 x184001_1] 90 (0, 0))) := ⟨by rw [← hq_]; exact (by (with_reducible repeat (first | refine blk_drewN ?_ _ | refine blk_drew ?_ | refine blk_alloc ?_ _)); exact BK183.out)⟩; have n1_ : Aside0 (Below w.heap.size w wc) := ⟨by rw [← hq_]; exact (by repeat (first | (with_reducible first | exact HB.out | apply below_alloc | apply pw_below_drewN | apply below_drew1 | refine below_set ?_ GE183.out) | exact HB.out))⟩; clear BK183 HB hq_; have BK183 := n0_; have HB := n1_; clear n0_ n1_)); have hcz21_0 : wc.cell? ⟨gb183, 0, none⟩ = some (.int .i64 x184000_1) := (blk_cell BK183.out 0).trans rfl; have hcz21_1 : wc.cell? ⟨gb183, 1, none⟩ = some (.int .i64 x184001_1) := (blk_cell BK183.out 1).trans rfl; have hfz21_0 := blk_frozen BK183.out 0; have hfz21_1 := blk_frozen BK183.out 1))
                  refine bodyPost_ret (results_cell_row rfl _ _ gb183 90 #[.int .i64 a1, .int .i64 103] (0, 0) _ rfl (by (with_reducible repeat (first | refine blk_drewN ?_ _ | refine blk_drew ?_ | refine blk_alloc ?_ _)); refine blk_put (cs := #[.int .i64 a1, .int .i64 x184001_1]) ?_ 1 _ rfl; (with_reducible repeat (first | refine blk_drewN ?_ _ | refine blk_drew ?_ | refine blk_alloc ?_ _)); refine blk_put (cs := #[.int .i64 x184000_1, .int .i64 x184001_1]) ?_ 0 _ rfl; (with_reducible repeat (first | refine blk_drewN ?_ _ | refine blk_drew ?_ | refine blk_alloc ?_ _)); exact BK183.out) Tryz.underlying90 rfl (by kernel_rfl)) rfl ?_
                  exact ⟨by first | rfl | (simp [errW_none, errW_some] <;> rfl) | (simp [*, errW_none, errW_some] <;> rfl), by repeat (first | (with_reducible first | exact HB.out | apply below_alloc | apply pw_below_drewN | apply below_drew1 | refine below_set ?_ GE183.out) | exact HB.out)⟩
                · rw [if_neg c20] at H
                  have c20b0 : decide (65535 < (wrap64 ((wrap64 (x9_1 + t185)) - a1))) = false := decide_eq_false c20
                  clear c20
                  by_cases c22 : x14_11 = true
                  · subst c22
                    have H1 : (some (wrap64 (x9_1 + 1), 0)) = some (r1, r2) := by rw [if_pos rfl] at H; exact H
                    clear H
                    have H := H1
                    clear H1
                    simp only [Option.some.injEq, Prod.mk.injEq] at H
                    obtain ⟨rfl, rfl⟩ := H
                    go_wp2_with (first | ((with_reducible refine gate_callee (f := 79) rfl ?_); refine goesL_ (some 52) rfl rfl Tryz.func79 (by kernel_rfl) rfl #[.int .i64 t184, .bool t186] rfl (by (try simp only [List.map_toArray, List.map_cons, List.map_nil]); first | done | rfl | (simp only [List.length_drop, List.length_take]; rfl)) ?_; (with_reducible refine (colophonref10_control.calls t184 t186 t187 _ A19.out).mono ?_); rintro e w' ⟨rfl, ⟨nd, rfl⟩⟩; refine ⟨_, rfl, ?_⟩; (try (rw [drewN_self wc]; generalize hq_ : World.drewN wc _ = wc; have n0_ : Aside0 (wc.heap[gb183]? = some (.cells #[.int .i64 x184000_1, .int .i64 x184001_1] 90 (0, 0))) := ⟨by rw [← hq_]; exact (by (with_reducible repeat (first | refine blk_drewN ?_ _ | refine blk_drew ?_ | refine blk_alloc ?_ _)); exact BK183.out)⟩; have n1_ : Aside0 (Below w.heap.size w wc) := ⟨by rw [← hq_]; exact (by repeat (first | (with_reducible first | exact HB.out | apply below_alloc | apply pw_below_drewN | apply below_drew1 | refine below_set ?_ GE183.out) | exact HB.out))⟩; clear BK183 HB hq_; have BK183 := n0_; have HB := n1_; clear n0_ n1_)); have hcz23_0 : wc.cell? ⟨gb183, 0, none⟩ = some (.int .i64 x184000_1) := (blk_cell BK183.out 0).trans rfl; have hcz23_1 : wc.cell? ⟨gb183, 1, none⟩ = some (.int .i64 x184001_1) := (blk_cell BK183.out 1).trans rfl; have hfz23_0 := blk_frozen BK183.out 0; have hfz23_1 := blk_frozen BK183.out 1))
                    refine bodyPost_ret (results_cell_row rfl _ _ gb183 90 #[.int .i64 (wrap64 (x9_1 + 1)), .int .i64 0] (0, 0) _ rfl (by (with_reducible repeat (first | refine blk_drewN ?_ _ | refine blk_drew ?_ | refine blk_alloc ?_ _)); refine blk_put (cs := #[.int .i64 (wrap64 (x9_1 + 1)), .int .i64 x184001_1]) ?_ 1 _ rfl; (with_reducible repeat (first | refine blk_drewN ?_ _ | refine blk_drew ?_ | refine blk_alloc ?_ _)); refine blk_put (cs := #[.int .i64 x184000_1, .int .i64 x184001_1]) ?_ 0 _ rfl; (with_reducible repeat (first | refine blk_drewN ?_ _ | refine blk_drew ?_ | refine blk_alloc ?_ _)); exact BK183.out) Tryz.underlying90 rfl (by kernel_rfl)) rfl ?_
                    exact ⟨by first | rfl | (simp [errW_none, errW_some] <;> rfl) | (simp [*, errW_none, errW_some] <;> rfl), by repeat (first | (with_reducible first | exact HB.out | apply below_alloc | apply pw_below_drewN | apply below_drew1 | refine below_set ?_ GE183.out) | exact HB.out)⟩
                  · replace c22 := Bool.eq_false_iff.mpr c22
                    subst c22
                    have H1 : (if t187 = true then (some (x9_1, 102)) else (if a3 = true then (if x10_1 = 1 then (some (x9_1, 102)) else (if 0 ≤ x9_1 then (if x9_1 < (a0.size : Int) then (if (bt a0 x9_1) = a2 then (some (x9_1, 102)) else (colophonref10_quoted.l0 kj11 a0 a1 a2 a3 (wrap64 (x9_1 + t185)) (wrap64 (x10_1 + 1)))) else (none)) else (none))) else (colophonref10_quoted.l0 kj11 a0 a1 a2 a3 (wrap64 (x9_1 + t185)) (wrap64 (x10_1 + 1))))) = some (r1, r2) := by rw [if_neg (show ¬ (false = true) by decide)] at H; exact H
                    clear H
                    have H := H1
                    clear H1
                    by_cases c24 : t187 = true
                    · subst c24
                      have H1 : (some (x9_1, 102)) = some (r1, r2) := by rw [if_pos rfl] at H; exact H
                      clear H
                      have H := H1
                      clear H1
                      simp only [Option.some.injEq, Prod.mk.injEq] at H
                      obtain ⟨rfl, rfl⟩ := H
                      go_wp2_with (first | ((with_reducible refine gate_callee (f := 79) rfl ?_); refine goesL_ (some 52) rfl rfl Tryz.func79 (by kernel_rfl) rfl #[.int .i64 t184, .bool t186] rfl (by (try simp only [List.map_toArray, List.map_cons, List.map_nil]); first | done | rfl | (simp only [List.length_drop, List.length_take]; rfl)) ?_; (with_reducible refine (colophonref10_control.calls t184 t186 true _ A19.out).mono ?_); rintro e w' ⟨rfl, ⟨nd, rfl⟩⟩; refine ⟨_, rfl, ?_⟩; (try (rw [drewN_self wc]; generalize hq_ : World.drewN wc _ = wc; have n0_ : Aside0 (wc.heap[gb183]? = some (.cells #[.int .i64 x184000_1, .int .i64 x184001_1] 90 (0, 0))) := ⟨by rw [← hq_]; exact (by (with_reducible repeat (first | refine blk_drewN ?_ _ | refine blk_drew ?_ | refine blk_alloc ?_ _)); exact BK183.out)⟩; have n1_ : Aside0 (Below w.heap.size w wc) := ⟨by rw [← hq_]; exact (by repeat (first | (with_reducible first | exact HB.out | apply below_alloc | apply pw_below_drewN | apply below_drew1 | refine below_set ?_ GE183.out) | exact HB.out))⟩; clear BK183 HB hq_; have BK183 := n0_; have HB := n1_; clear n0_ n1_)); have hcz25_0 : wc.cell? ⟨gb183, 0, none⟩ = some (.int .i64 x184000_1) := (blk_cell BK183.out 0).trans rfl; have hcz25_1 : wc.cell? ⟨gb183, 1, none⟩ = some (.int .i64 x184001_1) := (blk_cell BK183.out 1).trans rfl; have hfz25_0 := blk_frozen BK183.out 0; have hfz25_1 := blk_frozen BK183.out 1))
                      refine bodyPost_ret (results_cell_row rfl _ _ gb183 90 #[.int .i64 x9_1, .int .i64 102] (0, 0) _ rfl (by (with_reducible repeat (first | refine blk_drewN ?_ _ | refine blk_drew ?_ | refine blk_alloc ?_ _)); refine blk_put (cs := #[.int .i64 x9_1, .int .i64 x184001_1]) ?_ 1 _ rfl; (with_reducible repeat (first | refine blk_drewN ?_ _ | refine blk_drew ?_ | refine blk_alloc ?_ _)); refine blk_put (cs := #[.int .i64 x184000_1, .int .i64 x184001_1]) ?_ 0 _ rfl; (with_reducible repeat (first | refine blk_drewN ?_ _ | refine blk_drew ?_ | refine blk_alloc ?_ _)); exact BK183.out) Tryz.underlying90 rfl (by kernel_rfl)) rfl ?_
                      exact ⟨by first | rfl | (simp [errW_none, errW_some] <;> rfl) | (simp [*, errW_none, errW_some] <;> rfl), by repeat (first | (with_reducible first | exact HB.out | apply below_alloc | apply pw_below_drewN | apply below_drew1 | refine below_set ?_ GE183.out) | exact HB.out)⟩
                    · replace c24 := Bool.eq_false_iff.mpr c24
                      subst c24
                      have H1 : (if a3 = true then (if x10_1 = 1 then (some (x9_1, 102)) else (if 0 ≤ x9_1 then (if x9_1 < (a0.size : Int) then (if (bt a0 x9_1) = a2 then (some (x9_1, 102)) else (colophonref10_quoted.l0 kj11 a0 a1 a2 a3 (wrap64 (x9_1 + t185)) (wrap64 (x10_1 + 1)))) else (none)) else (none))) else (colophonref10_quoted.l0 kj11 a0 a1 a2 a3 (wrap64 (x9_1 + t185)) (wrap64 (x10_1 + 1)))) = some (r1, r2) := by rw [if_neg (show ¬ (false = true) by decide)] at H; exact H
                      clear H
                      have H := H1
                      clear H1
                      by_cases c26 : a3 = true
                      · subst c26
                        have H1 : (if x10_1 = 1 then (some (x9_1, 102)) else (if 0 ≤ x9_1 then (if x9_1 < (a0.size : Int) then (if (bt a0 x9_1) = a2 then (some (x9_1, 102)) else (colophonref10_quoted.l0 kj11 a0 a1 a2 true (wrap64 (x9_1 + t185)) (wrap64 (x10_1 + 1)))) else (none)) else (none))) = some (r1, r2) := by rw [if_pos rfl] at H; exact H
                        clear H
                        have H := H1
                        clear H1
                        by_cases c27 : x10_1 = 1
                        · rw [if_pos c27] at H
                          have c27b0 : (x10_1 == 1) = true := beq_iff_eq.mpr c27
                          have c27b1 : (x10_1 != 1) = false := bne_eq_false_iff_eq.mpr c27
                          clear c27
                          simp only [Option.some.injEq, Prod.mk.injEq] at H
                          obtain ⟨rfl, rfl⟩ := H
                          go_wp2_with (first | ((with_reducible refine gate_callee (f := 79) rfl ?_); refine goesL_ (some 52) rfl rfl Tryz.func79 (by kernel_rfl) rfl #[.int .i64 t184, .bool t186] rfl (by (try simp only [List.map_toArray, List.map_cons, List.map_nil]); first | done | rfl | (simp only [List.length_drop, List.length_take]; rfl)) ?_; (with_reducible refine (colophonref10_control.calls t184 t186 false _ A19.out).mono ?_); rintro e w' ⟨rfl, ⟨nd, rfl⟩⟩; refine ⟨_, rfl, ?_⟩; (try (rw [drewN_self wc]; generalize hq_ : World.drewN wc _ = wc; have n0_ : Aside0 (wc.heap[gb183]? = some (.cells #[.int .i64 x184000_1, .int .i64 x184001_1] 90 (0, 0))) := ⟨by rw [← hq_]; exact (by (with_reducible repeat (first | refine blk_drewN ?_ _ | refine blk_drew ?_ | refine blk_alloc ?_ _)); exact BK183.out)⟩; have n1_ : Aside0 (Below w.heap.size w wc) := ⟨by rw [← hq_]; exact (by repeat (first | (with_reducible first | exact HB.out | apply below_alloc | apply pw_below_drewN | apply below_drew1 | refine below_set ?_ GE183.out) | exact HB.out))⟩; clear BK183 HB hq_; have BK183 := n0_; have HB := n1_; clear n0_ n1_)); have hcz28_0 : wc.cell? ⟨gb183, 0, none⟩ = some (.int .i64 x184000_1) := (blk_cell BK183.out 0).trans rfl; have hcz28_1 : wc.cell? ⟨gb183, 1, none⟩ = some (.int .i64 x184001_1) := (blk_cell BK183.out 1).trans rfl; have hfz28_0 := blk_frozen BK183.out 0; have hfz28_1 := blk_frozen BK183.out 1))
                          refine bodyPost_ret (results_cell_row rfl _ _ gb183 90 #[.int .i64 x9_1, .int .i64 102] (0, 0) _ rfl (by (with_reducible repeat (first | refine blk_drewN ?_ _ | refine blk_drew ?_ | refine blk_alloc ?_ _)); refine blk_put (cs := #[.int .i64 x9_1, .int .i64 x184001_1]) ?_ 1 _ rfl; (with_reducible repeat (first | refine blk_drewN ?_ _ | refine blk_drew ?_ | refine blk_alloc ?_ _)); refine blk_put (cs := #[.int .i64 x184000_1, .int .i64 x184001_1]) ?_ 0 _ rfl; (with_reducible repeat (first | refine blk_drewN ?_ _ | refine blk_drew ?_ | refine blk_alloc ?_ _)); exact BK183.out) Tryz.underlying90 rfl (by kernel_rfl)) rfl ?_
                          exact ⟨by first | rfl | (simp [errW_none, errW_some] <;> rfl) | (simp [*, errW_none, errW_some] <;> rfl), by repeat (first | (with_reducible first | exact HB.out | apply below_alloc | apply pw_below_drewN | apply below_drew1 | refine below_set ?_ GE183.out) | exact HB.out)⟩
                        · rw [if_neg c27] at H
                          have c27b0 : (x10_1 == 1) = false := beq_eq_false_iff_ne.mpr c27
                          have c27b1 : (x10_1 != 1) = true := bne_iff_ne.mpr c27
                          by_cases c29 : 0 ≤ x9_1
                          · rw [if_pos c29] at H
                            have c29b0 : decide (0 ≤ x9_1) = true := decide_eq_true c29
                            clear c29
                            by_cases c30 : x9_1 < (a0.size : Int)
                            · rw [if_pos c30] at H
                              have c30b0 : decide (x9_1 < (a0.size : Int)) = true := decide_eq_true c30
                              clear c30
                              by_cases c32 : (bt a0 x9_1) = a2
                              · rw [if_pos c32] at H
                                have c32b0 : ((bt a0 x9_1) == a2) = true := beq_iff_eq.mpr c32
                                have c32b1 : ((bt a0 x9_1) != a2) = false := bne_eq_false_iff_eq.mpr c32
                                clear c32
                                simp only [Option.some.injEq, Prod.mk.injEq] at H
                                obtain ⟨rfl, rfl⟩ := H
                                go_wp2_with (first | ((with_reducible refine gate_callee (f := 79) rfl ?_); refine goesL_ (some 52) rfl rfl Tryz.func79 (by kernel_rfl) rfl #[.int .i64 t184, .bool t186] rfl (by (try simp only [List.map_toArray, List.map_cons, List.map_nil]); first | done | rfl | (simp only [List.length_drop, List.length_take]; rfl)) ?_; (with_reducible refine (colophonref10_control.calls t184 t186 false _ A19.out).mono ?_); rintro e w' ⟨rfl, ⟨nd, rfl⟩⟩; refine ⟨_, rfl, ?_⟩; (try (rw [drewN_self wc]; generalize hq_ : World.drewN wc _ = wc; have n0_ : Aside0 (wc.heap[gb183]? = some (.cells #[.int .i64 x184000_1, .int .i64 x184001_1] 90 (0, 0))) := ⟨by rw [← hq_]; exact (by (with_reducible repeat (first | refine blk_drewN ?_ _ | refine blk_drew ?_ | refine blk_alloc ?_ _)); exact BK183.out)⟩; have n1_ : Aside0 (Below w.heap.size w wc) := ⟨by rw [← hq_]; exact (by repeat (first | (with_reducible first | exact HB.out | apply below_alloc | apply pw_below_drewN | apply below_drew1 | refine below_set ?_ GE183.out) | exact HB.out))⟩; clear BK183 HB hq_; have BK183 := n0_; have HB := n1_; clear n0_ n1_)); have p31 : 0 ≤ (x9_1 : Int) := of_decide_eq_true (by first | (with_reducible assumption) | assumption); have q31 : x9_1 < (a0.size : Int) := of_decide_eq_true (by first | (with_reducible assumption) | assumption); have hx31 := bt_at a0 x9_1; replace p31 := eq_true p31; replace q31 := eq_true q31; have hcz33_0 : wc.cell? ⟨gb183, 0, none⟩ = some (.int .i64 x184000_1) := (blk_cell BK183.out 0).trans rfl; have hcz33_1 : wc.cell? ⟨gb183, 1, none⟩ = some (.int .i64 x184001_1) := (blk_cell BK183.out 1).trans rfl; have hfz33_0 := blk_frozen BK183.out 0; have hfz33_1 := blk_frozen BK183.out 1))
                                refine bodyPost_ret (results_cell_row rfl _ _ gb183 90 #[.int .i64 x9_1, .int .i64 102] (0, 0) _ rfl (by (with_reducible repeat (first | refine blk_drewN ?_ _ | refine blk_drew ?_ | refine blk_alloc ?_ _)); refine blk_put (cs := #[.int .i64 x9_1, .int .i64 x184001_1]) ?_ 1 _ rfl; (with_reducible repeat (first | refine blk_drewN ?_ _ | refine blk_drew ?_ | refine blk_alloc ?_ _)); refine blk_put (cs := #[.int .i64 x184000_1, .int .i64 x184001_1]) ?_ 0 _ rfl; (with_reducible repeat (first | refine blk_drewN ?_ _ | refine blk_drew ?_ | refine blk_alloc ?_ _)); exact BK183.out) Tryz.underlying90 rfl (by kernel_rfl)) rfl ?_
                                exact ⟨by first | rfl | (simp [errW_none, errW_some] <;> rfl) | (simp [*, errW_none, errW_some] <;> rfl), by repeat (first | (with_reducible first | exact HB.out | apply below_alloc | apply pw_below_drewN | apply below_drew1 | refine below_set ?_ GE183.out) | exact HB.out)⟩
                              · rw [if_neg c32] at H
                                have c32b0 : ((bt a0 x9_1) == a2) = false := beq_eq_false_iff_ne.mpr c32
                                have c32b1 : ((bt a0 x9_1) != a2) = true := bne_iff_ne.mpr c32
                                have H' := Aside0.mk H
                                clear H
                                go_wp2_with (first | ((with_reducible refine gate_callee (f := 79) rfl ?_); refine goesL_ (some 52) rfl rfl Tryz.func79 (by kernel_rfl) rfl #[.int .i64 t184, .bool t186] rfl (by (try simp only [List.map_toArray, List.map_cons, List.map_nil]); first | done | rfl | (simp only [List.length_drop, List.length_take]; rfl)) ?_; (with_reducible refine (colophonref10_control.calls t184 t186 false _ A19.out).mono ?_); rintro e w' ⟨rfl, ⟨nd, rfl⟩⟩; refine ⟨_, rfl, ?_⟩; have p31 : 0 ≤ (x9_1 : Int) := of_decide_eq_true (by first | (with_reducible assumption) | assumption); have q31 : x9_1 < (a0.size : Int) := of_decide_eq_true (by first | (with_reducible assumption) | assumption); have hx31 := bt_at a0 x9_1; replace p31 := eq_true p31; replace q31 := eq_true q31))
                                go_roundg kj11
                                case measure => have := HK1.out; have := HJ5.out; have := HJ11.out; omega
                                case rel => exact ⟨(wrap64 (x9_1 + t185)), (wrap64 (x10_1 + 1)), (x184000_1), (x184001_1), (by first | rfl | (simp; done) | (simp [*]; done)), (by first | rfl | (simp; done) | (simp [*]; done)), H', ⟨by have := HK1.out; have := HJ5.out; have := HJ11.out; omega⟩, ⟨by (with_reducible repeat (first | refine blk_drewN ?_ _ | refine blk_drew ?_ | refine blk_alloc ?_ _)); exact BK183.out⟩, ⟨by repeat (first | (with_reducible first | exact HB.out | apply below_alloc | apply pw_below_drewN | apply below_drew1 | refine below_set ?_ GE183.out) | exact HB.out)⟩⟩
                            · rw [if_neg c30] at H
                              exact absurd H (by simp)
                          · rw [if_neg c29] at H
                            exact absurd H (by simp)
                      · replace c26 := Bool.eq_false_iff.mpr c26
                        subst c26
                        have H1 : (colophonref10_quoted.l0 kj11 a0 a1 a2 false (wrap64 (x9_1 + t185)) (wrap64 (x10_1 + 1))) = some (r1, r2) := by rw [if_neg (show ¬ (false = true) by decide)] at H; exact H
                        clear H
                        have H := H1
                        clear H1
                        have H' := Aside0.mk H
                        clear H
                        go_wp2_with (first | ((with_reducible refine gate_callee (f := 79) rfl ?_); refine goesL_ (some 52) rfl rfl Tryz.func79 (by kernel_rfl) rfl #[.int .i64 t184, .bool t186] rfl (by (try simp only [List.map_toArray, List.map_cons, List.map_nil]); first | done | rfl | (simp only [List.length_drop, List.length_take]; rfl)) ?_; (with_reducible refine (colophonref10_control.calls t184 t186 false _ A19.out).mono ?_); rintro e w' ⟨rfl, ⟨nd, rfl⟩⟩; refine ⟨_, rfl, ?_⟩))
                        go_roundg kj11
                        case measure => have := HK1.out; have := HJ5.out; have := HJ11.out; omega
                        case rel => exact ⟨(wrap64 (x9_1 + t185)), (wrap64 (x10_1 + 1)), (x184000_1), (x184001_1), (by first | rfl | (simp; done) | (simp [*]; done)), (by first | rfl | (simp; done) | (simp [*]; done)), H', ⟨by have := HK1.out; have := HJ5.out; have := HJ11.out; omega⟩, ⟨by (with_reducible repeat (first | refine blk_drewN ?_ _ | refine blk_drew ?_ | refine blk_alloc ?_ _)); exact BK183.out⟩, ⟨by repeat (first | (with_reducible first | exact HB.out | apply below_alloc | apply pw_below_drewN | apply below_drew1 | refine below_set ?_ GE183.out) | exact HB.out)⟩⟩
          · replace c10 := Bool.eq_false_iff.mpr c10
            subst c10
            have H1 : (some (a1, 101)) = some (r1, r2) := by rw [if_neg (show ¬ (false = true) by decide)] at H; exact H
            clear H
            have H := H1
            clear H1
            simp only [Option.some.injEq, Prod.mk.injEq] at H
            obtain ⟨rfl, rfl⟩ := H
            have hcz34_0 : wc.cell? ⟨gb183, 0, none⟩ = some (.int .i64 x184000_1) := (blk_cell BK183.out 0).trans rfl
            have hcz34_1 : wc.cell? ⟨gb183, 1, none⟩ = some (.int .i64 x184001_1) := (blk_cell BK183.out 1).trans rfl
            have hfz34_0 := blk_frozen BK183.out 0
            have hfz34_1 := blk_frozen BK183.out 1
            go_wp2
            refine bodyPost_ret (results_cell_row rfl _ _ gb183 90 #[.int .i64 a1, .int .i64 101] (0, 0) _ rfl (by (with_reducible repeat (first | refine blk_drewN ?_ _ | refine blk_drew ?_ | refine blk_alloc ?_ _)); refine blk_put (cs := #[.int .i64 a1, .int .i64 x184001_1]) ?_ 1 _ rfl; (with_reducible repeat (first | refine blk_drewN ?_ _ | refine blk_drew ?_ | refine blk_alloc ?_ _)); refine blk_put (cs := #[.int .i64 x184000_1, .int .i64 x184001_1]) ?_ 0 _ rfl; (with_reducible repeat (first | refine blk_drewN ?_ _ | refine blk_drew ?_ | refine blk_alloc ?_ _)); exact BK183.out) Tryz.underlying90 rfl (by kernel_rfl)) rfl ?_
            exact ⟨by first | rfl | (simp [errW_none, errW_some] <;> rfl) | (simp [*, errW_none, errW_some] <;> rfl), by repeat (first | (with_reducible first | exact HB.out | apply below_alloc | apply pw_below_drewN | apply below_drew1 | refine below_set ?_ GE183.out) | exact HB.out)⟩

end Go.Proofs.YtdphhmigbbgjmaaGreatDoor.PScan
