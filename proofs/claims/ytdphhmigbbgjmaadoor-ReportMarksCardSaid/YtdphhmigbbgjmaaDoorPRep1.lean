/- Printed by a program of this session (wip/xprint.py) over the kit's print, with contracts of this session's own: the reference of report. -/
import Derived.Test.YtdphhmigbbgjmaaDoorPRep0
namespace Go.Proofs.YtdphhmigbbgjmaaDoor.PRep
open Go.RowKit Go.Proofs.YtdphhmigbbgjmaaDoorW.PrintWords Go.Proofs.YtdphhmigbbgjmaaDoorW.PrintLast Go.Proofs.YtdphhmigbbgjmaaDoorW.PrintMore
attribute [local go_sem] max2_int min2_int max_two min_two max_three min_three max_four min_four   -- for this text's walks alone
set_option linter.unusedVariables false
set_option linter.unusedSimpArgs false
attribute [local go_sem ↓] cutS_in

-- by hand: function 50 (colophonref20_Head)

-- by hand: function 51 (colophonref03_Line)

-- by hand: function 52 (colophonref01_Count)

-- by hand: function 97 (colophonref02_Text)

-- by hand: function 98 (colophonref01_Next)

/-! ### colophonref20_shown: function 53 -/
mutual
def colophonref20_shown.l0 : Nat → ByteArray → Int → List Int → Int → Int → Int → Option (ByteArray × Int)
  | 0, _, _, _, _, _, _ => none
  | k + 1, x0, x1, x6, x7, x8, x9 => if x9 < (x0.size : Int) then (if x8 = x1 then ((colophonref02_Text.f (strOfNums x6)).bind fun t102 => (colophonref20_shown.j1 k x0 x1 x6 t102 x8 x9)) else (colophonref20_shown.j1 k x0 x1 x6 x7 x8 x9)) else (if x8 = x1 then ((colophonref02_Text.f (strOfNums x6)).bind fun t101 => (some (strOfNums x6, t101))) else (some (strOfNums x6, x7)))
def colophonref20_shown.j1 : Nat → ByteArray → Int → List Int → Int → Int → Int → Option (ByteArray × Int)
  | 0, _, _, _, _, _, _ => none
  | k + 1, x0, x1, x6, x7, x8, x9 => (colophonref01_Next.f x0 x9).bind fun bt103 => (if bt103.2.2 = true then (if bt103.1 < 32 then (if x6.length < 140737488355328 then (colophonref20_shown.l0 k x0 x1 (x6 ++ [32]) x7 (wrap64 (x8 + 1)) (wrap64 (x9 + bt103.2.1))) else (none)) else (if bt103.1 = 127 then (if x6.length < 140737488355328 then (colophonref20_shown.l0 k x0 x1 (x6 ++ [32]) x7 (wrap64 (x8 + 1)) (wrap64 (x9 + bt103.2.1))) else (none)) else (if 0 ≤ x9 then (if x9 ≤ (wrap64 (x9 + bt103.2.1)) then (if (wrap64 (x9 + bt103.2.1)) ≤ (x0.size : Int) then (if x6.length + (cutS x0 (x9 : Int).toNat ((wrap64 (x9 + bt103.2.1)) : Int).toNat).size < 140737488355328 then (colophonref20_shown.l0 k x0 x1 (x6 ++ bytesOf (cutS x0 (x9 : Int).toNat ((wrap64 (x9 + bt103.2.1)) : Int).toNat)) x7 (wrap64 (x8 + 1)) (wrap64 (x9 + bt103.2.1))) else (none)) else (none)) else (none)) else (none)))) else ((some (([239, 191, 189] : List Int) : List Int)).bind fun y115 => (if x6.length + y115.length < 140737488355328 then (colophonref20_shown.l0 k x0 x1 (x6 ++ y115) x7 (wrap64 (x8 + 1)) (wrap64 (x9 + bt103.2.1))) else (none))))
end
def colophonref20_shown.f (k : Nat) (a0 : ByteArray) (a1 : Int) : Option (ByteArray × Int) := colophonref20_shown.l0 k a0 a1 ([] : List Int) 0 0 0
theorem colophonref20_shown.mono_l : ∀ k, (∀ y0 y1 y2 y3 y4 y5, LeO (colophonref20_shown.l0 k y0 y1 y2 y3 y4 y5) (colophonref20_shown.l0 (k + 1) y0 y1 y2 y3 y4 y5)) ∧ (∀ y0 y1 y2 y3 y4 y5, LeO (colophonref20_shown.j1 k y0 y1 y2 y3 y4 y5) (colophonref20_shown.j1 (k + 1) y0 y1 y2 y3 y4 y5))
  | 0 => ⟨fun _ _ _ _ _ _ r h => by simp [colophonref20_shown.l0] at h, fun _ _ _ _ _ _ r h => by simp [colophonref20_shown.j1] at h⟩
  | k + 1 => by
    obtain ⟨ih0, ih1⟩ := colophonref20_shown.mono_l k
    refine ⟨?_, ?_⟩
    · intro y0 y1 y2 y3 y4 y5
      unfold colophonref20_shown.l0
      repeat' first
      | (with_reducible exact ih0 _ _ _ _ _ _)
      | (with_reducible exact ih1 _ _ _ _ _ _)
      | (with_reducible exact LeO.refl _)
      | (with_reducible exact LeO.none _)
      | (with_reducible refine LeO.ite ?_ ?_)
      | (with_reducible refine LeO.bind ?_ (fun _ => ?_))
      | exact ih0 _ _ _ _ _ _
      | exact ih1 _ _ _ _ _ _
      | exact LeO.none _
      | refine LeO.ite ?_ ?_
      | refine LeO.bind ?_ (fun _ => ?_)
    · intro y0 y1 y2 y3 y4 y5
      unfold colophonref20_shown.j1
      repeat' first
      | (with_reducible exact ih0 _ _ _ _ _ _)
      | (with_reducible exact ih1 _ _ _ _ _ _)
      | (with_reducible exact LeO.refl _)
      | (with_reducible exact LeO.none _)
      | (with_reducible refine LeO.ite ?_ ?_)
      | (with_reducible refine LeO.bind ?_ (fun _ => ?_))
      | exact ih0 _ _ _ _ _ _
      | exact ih1 _ _ _ _ _ _
      | exact LeO.none _
      | refine LeO.ite ?_ ?_
      | refine LeO.bind ?_ (fun _ => ?_)
theorem colophonref20_shown.mono : ∀ a0 a1 k, LeO (colophonref20_shown.f k a0 a1) (colophonref20_shown.f (k + 1) a0 a1) := by
  intro a0 a1 k
  obtain ⟨ih0, ih1⟩ := colophonref20_shown.mono_l k
  unfold colophonref20_shown.f
  repeat' first
      | (with_reducible exact ih0 _ _ _ _ _ _)
      | (with_reducible exact ih1 _ _ _ _ _ _)
      | (with_reducible exact LeO.refl _)
      | (with_reducible exact LeO.none _)
      | (with_reducible refine LeO.ite ?_ ?_)
      | (with_reducible refine LeO.bind ?_ (fun _ => ?_))
      | exact ih0 _ _ _ _ _ _
      | exact ih1 _ _ _ _ _ _
      | exact LeO.none _
      | refine LeO.ite ?_ ?_
      | refine LeO.bind ?_ (fun _ => ?_)
set_option maxHeartbeats 8000000 in
set_option maxRecDepth 100000 in
theorem colophonref20_shown.calls (k : Nat) (a0 : ByteArray) (a1 : Int) (r1 : ByteArray) (r2 : Int) (w : World) (h : colophonref20_shown.f k a0 a1 = some (r1, r2)) :
    Calls Tryd.prog 53 #[.string a0, .int .i64 a1] w fun e w' => e = .returned (.tuple #[.string r1, .int .i64 r2]) ∧ Below w.heap.size w w' := by
  have HB := Aside0.mk (Below.refl w.heap.size w)
  have H : (colophonref20_shown.l0 k a0 a1 ([] : List Int) 0 0 0) = some (r1, r2) := h
  clear h
  have H' := Aside0.mk H
  clear H
  go_enter Tryd.func53, Tryd.ntmps53
  go_wp2
  go_loopg [6, 7, 8, 9] k (fun kq v6 v7 v8 v9 w' => ∃ (x6_1 : List Int) (x7_1 : Int) (x8_1 : Int) (x9_1 : Int), v7 = .int .i64 x7_1 ∧ v8 = .int .i64 x8_1 ∧ v9 = .int .i64 x9_1 ∧ Aside0 (colophonref20_shown.l0 kq a0 a1 x6_1 x7_1 x8_1 x9_1 = some (r1, r2)) ∧ Aside0 (kq ≤ k) ∧ Aside0 (Kd.R (Kd.int .u8) 5 w' w.heap.size (fun _ => True) v6 x6_1) ∧ Aside0 (Below w.heap.size w w'))
  case atStart => exact ⟨(([] : List Int)), (0), (0), (0), (by first | rfl | (simp; done) | (simp [*]; done)), (by first | rfl | (simp; done) | (simp [*]; done)), (by first | rfl | (simp; done) | (simp [*]; done)), H', ⟨Nat.le_refl _⟩, ⟨by first | exact Kd.R_nil _ _ _ _ _ | exact Kd.N_nil _ _ _ _ _ | exact Kd.V_nil _ _ _ _ _ | exact Kd.Q_nil _ _ _ _ _ | exact Kd.S_nil _ _ _ _ _⟩, ⟨by repeat (first | (with_reducible first | exact HB.out | apply below_alloc | apply pw_below_drewN | apply below_drew1) | exact HB.out)⟩⟩
  case round =>
    clear H'
    try clear p2
    obtain ⟨x6_1, x7_1, x8_1, x9_1, rfl, rfl, rfl, HA, HK1, HO_6, HB⟩ := hrel
    cases gk with
    | zero => exact absurd HA.out (by simp [colophonref20_shown.l0])
    | succ k1 =>
      have H := HA.out
      clear HA
      simp only [colophonref20_shown.l0] at H
      by_cases c3 : x9_1 < (a0.size : Int)
      · rw [if_pos c3] at H
        have c3b0 : decide (x9_1 < (a0.size : Int)) = true := decide_eq_true c3
        clear c3
        have HC4 := Aside0.mk H
        clear H
        go_upto_if 19 with (fail)
        go_cut [7] (fun v7 wc => ∃ (kq : Nat) (x7_3 : Int), v7 = .int .i64 x7_3 ∧ Aside0 (colophonref20_shown.j1 kq a0 a1 x6_1 x7_3 x8_1 x9_1 = some (r1, r2)) ∧ Aside0 (kq ≤ k1) ∧ Aside0 (Kd.R (Kd.int .u8) 5 wc w.heap.size (fun _ => True) u6 x6_1) ∧ Aside0 (Below w.heap.size w wc))
        case first =>
          have H := HC4.out
          clear HC4
          by_cases c5 : x8_1 = a1
          · rw [if_pos c5] at H
            have c5b0 : (x8_1 == a1) = true := beq_iff_eq.mpr c5
            have c5b1 : (x8_1 != a1) = false := bne_eq_false_iff_eq.mpr c5
            clear c5
            (first | rw [c5b0] | (simp only [i64_w, i32_w]; rw [c5b0]) | skip)
            replace H := Option.bind_eq_some_iff.mp H
            obtain ⟨t102, A60, H⟩ := H
            replace H : (colophonref20_shown.j1 k1 a0 a1 x6_1 t102 x8_1 x9_1) = some (r1, r2) := H
            have A6 := Aside0.mk A60
            clear A60
            have H' := Aside0.mk H
            clear H
            have hcv7 := own_string (P := Tryd.prog) Tryd.underlying79 Tryd.underlying5 Tryd.underlying9 (Kd.own_of_R HO_6.out)
            go_wp2_with (first | ((with_reducible refine gate_callee (f := 97) rfl ?_); refine goesL_ (some 22) rfl rfl Tryd.func97 (by kernel_rfl) rfl #[.string (strOfNums x6_1)] rfl (by (try simp only [List.map_toArray, List.map_cons, List.map_nil]); first | done | rfl | (simp only [List.length_drop, List.length_take]; rfl)) ?_; (with_reducible refine (colophonref02_Text.calls (strOfNums x6_1) t102 _ A6.out).mono ?_); rintro e w8 ⟨rfl, hb⟩; refine ⟨_, rfl, ?_⟩; have n0_ := Aside0.mk (Kd.R_below (by (with_reducible repeat (first | apply Kd.R_alloc | apply Kd.R_drewN | apply Kd.R_drew)); exact HO_6.out) hb); have n1_ := Aside0.mk (below_step (by repeat (first | (with_reducible first | exact HB.out | apply below_alloc | apply pw_below_drewN | apply below_drew1) | exact HB.out)) hb); clear HO_6; clear HB; have HO_6 := n0_; have HB := n1_; clear n0_ n1_; (try clear hb); (try clear hb2); (try clear hk); (try clear hi)))
            go_meet
            case rel => exact ⟨_, (t102), (by first | rfl | (simp; done) | (simp [*]; done)), H', ⟨by have := HK1.out; first | omega | exact Nat.le_refl _⟩, ⟨by (with_reducible repeat (first | apply Kd.R_alloc | apply Kd.R_drewN | apply Kd.R_drew)); exact HO_6.out⟩, ⟨by repeat (first | (with_reducible first | exact HB.out | apply below_alloc | apply pw_below_drewN | apply below_drew1) | exact HB.out)⟩⟩
          · rw [if_neg c5] at H
            have c5b0 : (x8_1 == a1) = false := beq_eq_false_iff_ne.mpr c5
            have c5b1 : (x8_1 != a1) = true := bne_iff_ne.mpr c5
            (first | rw [c5b0] | (simp only [i64_w, i32_w]; rw [c5b0]) | skip)
            have H' := Aside0.mk H
            clear H
            go_wp2
            go_meet
            case rel => exact ⟨_, (x7_1), (by first | rfl | (simp; done) | (simp [*]; done)), H', ⟨by have := HK1.out; first | omega | exact Nat.le_refl _⟩, ⟨by (with_reducible repeat (first | apply Kd.R_alloc | apply Kd.R_drewN | apply Kd.R_drew)); exact HO_6.out⟩, ⟨by repeat (first | (with_reducible first | exact HB.out | apply below_alloc | apply pw_below_drewN | apply below_drew1) | exact HB.out)⟩⟩
        case rest =>
          clear HC4
          try clear p2
          try clear c3
          try clear c3b0
          try clear c5
          try clear c5b0
          try clear c5b1
          try clear hcv7
          try clear p2
          obtain ⟨kq, x7_3, rfl, HA, HJ3, HO_6, HB⟩ := hcut
          cases kq with
          | zero => exact absurd HA.out (by simp [colophonref20_shown.j1])
          | succ kj3 =>
            have H := HA.out
            clear HA
            simp only [colophonref20_shown.j1] at H
            replace H := Option.bind_eq_some_iff.mp H
            obtain ⟨⟨t103, t104, t105⟩, A90, H⟩ := H
            replace H : (if t105 = true then (if t103 < 32 then (if x6_1.length < 140737488355328 then (colophonref20_shown.l0 kj3 a0 a1 (x6_1 ++ [32]) x7_3 (wrap64 (x8_1 + 1)) (wrap64 (x9_1 + t104))) else (none)) else (if t103 = 127 then (if x6_1.length < 140737488355328 then (colophonref20_shown.l0 kj3 a0 a1 (x6_1 ++ [32]) x7_3 (wrap64 (x8_1 + 1)) (wrap64 (x9_1 + t104))) else (none)) else (if 0 ≤ x9_1 then (if x9_1 ≤ (wrap64 (x9_1 + t104)) then (if (wrap64 (x9_1 + t104)) ≤ (a0.size : Int) then (if x6_1.length + (cutS a0 (x9_1 : Int).toNat ((wrap64 (x9_1 + t104)) : Int).toNat).size < 140737488355328 then (colophonref20_shown.l0 kj3 a0 a1 (x6_1 ++ bytesOf (cutS a0 (x9_1 : Int).toNat ((wrap64 (x9_1 + t104)) : Int).toNat)) x7_3 (wrap64 (x8_1 + 1)) (wrap64 (x9_1 + t104))) else (none)) else (none)) else (none)) else (none)))) else ((some (([239, 191, 189] : List Int) : List Int)).bind fun y115 => (if x6_1.length + y115.length < 140737488355328 then (colophonref20_shown.l0 kj3 a0 a1 (x6_1 ++ y115) x7_3 (wrap64 (x8_1 + 1)) (wrap64 (x9_1 + t104))) else (none)))) = some (r1, r2) := H
            have A9 := Aside0.mk A90
            clear A90
            by_cases c10 : t105 = true
            · subst c10
              have H1 : (if t103 < 32 then (if x6_1.length < 140737488355328 then (colophonref20_shown.l0 kj3 a0 a1 (x6_1 ++ [32]) x7_3 (wrap64 (x8_1 + 1)) (wrap64 (x9_1 + t104))) else (none)) else (if t103 = 127 then (if x6_1.length < 140737488355328 then (colophonref20_shown.l0 kj3 a0 a1 (x6_1 ++ [32]) x7_3 (wrap64 (x8_1 + 1)) (wrap64 (x9_1 + t104))) else (none)) else (if 0 ≤ x9_1 then (if x9_1 ≤ (wrap64 (x9_1 + t104)) then (if (wrap64 (x9_1 + t104)) ≤ (a0.size : Int) then (if x6_1.length + (cutS a0 (x9_1 : Int).toNat ((wrap64 (x9_1 + t104)) : Int).toNat).size < 140737488355328 then (colophonref20_shown.l0 kj3 a0 a1 (x6_1 ++ bytesOf (cutS a0 (x9_1 : Int).toNat ((wrap64 (x9_1 + t104)) : Int).toNat)) x7_3 (wrap64 (x8_1 + 1)) (wrap64 (x9_1 + t104))) else (none)) else (none)) else (none)) else (none)))) = some (r1, r2) := by rw [if_pos rfl] at H; exact H
              clear H
              have H := H1
              clear H1
              by_cases c11 : t103 < 32
              · rw [if_pos c11] at H
                have c11b0 : decide (t103 < 32) = true := decide_eq_true c11
                clear c11
                by_cases c12 : x6_1.length < 140737488355328
                · rw [if_pos c12] at H
                  have LMc12 := Aside0.mk c12
                  clear c12
                  obtain ⟨y106, hy106⟩ : ∃ y_ : List Int, y_ = (x6_1 ++ [32]) := ⟨_, rfl⟩
                  replace H : (colophonref20_shown.l0 kj3 a0 a1 y106 x7_3 (wrap64 (x8_1 + 1)) (wrap64 (x9_1 + t104))) = some (r1, r2) := by first | (rw [hy106]; with_reducible exact H) | (have H2_ := (Option.bind_some _ _).symm.trans H; rw [hy106]; with_reducible exact H2_) | (have H2_ := (Option.bind_some _ _).symm.trans H; with_reducible exact H2_) | with_reducible exact H | (rw [hy106]; exact H) | exact H
                  have Ny106 := Aside0.mk hy106
                  clear hy106
                  have H' := Aside0.mk H
                  clear H
                  go_wp2_with (first | ((with_reducible refine gate_callee (f := 98) rfl ?_); refine goesL_ (some 26) rfl rfl Tryd.func98 (by kernel_rfl) rfl #[.string a0, .int .i64 x9_1] rfl (by (try simp only [List.map_toArray, List.map_cons, List.map_nil]); first | done | rfl | (simp only [List.length_drop, List.length_take]; rfl)) ?_; (with_reducible refine (colophonref01_Next.calls a0 x9_1 t103 t104 true _ A9.out).mono ?_); rintro e w13 ⟨rfl, hb⟩; refine ⟨_, rfl, ?_⟩; have n0_ := Aside0.mk (Kd.R_below (by (with_reducible repeat (first | apply Kd.R_alloc | apply Kd.R_drewN | apply Kd.R_drew)); exact HO_6.out) hb); have n1_ := Aside0.mk (below_step (by repeat (first | (with_reducible first | exact HB.out | apply below_alloc | apply pw_below_drewN | apply below_drew1) | exact HB.out)) hb); clear HO_6; clear HB; have HO_6 := n0_; have HB := n1_; clear n0_ n1_; (try clear hb); (try clear hb2); (try clear hk); (try clear hi)) | ((with_reducible refine gate_builtin (b := .append) (xs := #[.tmp 41, .tmp 42]) rfl ?_); at_builtin; refine Kd.R_append (Kd.int .u8) (w0 := w) w.heap.size rfl (.tmp 41) (.tmp 42) 79 5 (.int .u8 0) 1 rfl Tryd.underlying79 info5 rfl (by decide) (by omega) u6 x6_1 32 [.int .u8 32] (fun _ => True) (fun _ => False) rfl rfl ?aP (fun _ hk => hk.elim) ?aF ?aO ?aB ?aS ?aL ?_; (case aP => exact rfl); (case aB => exact (by repeat (first | (with_reducible first | exact HB.out | apply below_alloc | apply pw_below_drewN | apply below_drew1) | exact HB.out))); (case aF => exact (fun _ _ => trivial)); (case aO => exact (by (with_reducible repeat (first | apply Kd.R_alloc | apply Kd.R_drewN | apply Kd.R_drew)); exact HO_6.out)); (case aS => exact (below_size (by repeat (first | (with_reducible first | exact HB.out | apply below_alloc | apply pw_below_drewN | apply below_drew1) | exact HB.out)))); (case aL => have := LMc12.out; omega); intro v107 w14 ho hb hg hat; rw [← Ny106.out] at ho; have n0_ := Aside0.mk (hb); have n1_ := Aside0.mk (ho); clear HB; clear HO_6; have HB := n0_; have HO108 := n1_; clear n0_ n1_; clear ho hb hg hat))
                  go_roundg kj3
                  case measure => have := HK1.out; have := HJ3.out; omega
                  case rel => exact ⟨(y106), (x7_3), (wrap64 (x8_1 + 1)), (wrap64 (x9_1 + t104)), (by first | rfl | (simp; done) | (simp [*]; done)), (by first | rfl | (simp; done) | (simp [*]; done)), (by first | rfl | (simp; done) | (simp [*]; done)), H', ⟨by have := HK1.out; have := HJ3.out; omega⟩, ⟨by (with_reducible repeat (first | apply Kd.R_alloc | apply Kd.R_drewN | apply Kd.R_drew)); exact HO108.out⟩, ⟨by repeat (first | (with_reducible first | exact HB.out | apply below_alloc | apply pw_below_drewN | apply below_drew1) | exact HB.out)⟩⟩
                · rw [if_neg c12] at H
                  exact absurd H (by simp)
              · rw [if_neg c11] at H
                have c11b0 : decide (t103 < 32) = false := decide_eq_false c11
                clear c11
                by_cases c15 : t103 = 127
                · rw [if_pos c15] at H
                  have c15b0 : (t103 == 127) = true := beq_iff_eq.mpr c15
                  have c15b1 : (t103 != 127) = false := bne_eq_false_iff_eq.mpr c15
                  clear c15
                  by_cases c16 : x6_1.length < 140737488355328
                  · rw [if_pos c16] at H
                    have LMc16 := Aside0.mk c16
                    clear c16
                    obtain ⟨y109, hy109⟩ : ∃ y_ : List Int, y_ = (x6_1 ++ [32]) := ⟨_, rfl⟩
                    replace H : (colophonref20_shown.l0 kj3 a0 a1 y109 x7_3 (wrap64 (x8_1 + 1)) (wrap64 (x9_1 + t104))) = some (r1, r2) := by first | (rw [hy109]; with_reducible exact H) | (have H2_ := (Option.bind_some _ _).symm.trans H; rw [hy109]; with_reducible exact H2_) | (have H2_ := (Option.bind_some _ _).symm.trans H; with_reducible exact H2_) | with_reducible exact H | (rw [hy109]; exact H) | exact H
                    have Ny109 := Aside0.mk hy109
                    clear hy109
                    have H' := Aside0.mk H
                    clear H
                    go_wp2_with (first | ((with_reducible refine gate_callee (f := 98) rfl ?_); refine goesL_ (some 26) rfl rfl Tryd.func98 (by kernel_rfl) rfl #[.string a0, .int .i64 x9_1] rfl (by (try simp only [List.map_toArray, List.map_cons, List.map_nil]); first | done | rfl | (simp only [List.length_drop, List.length_take]; rfl)) ?_; (with_reducible refine (colophonref01_Next.calls a0 x9_1 t103 t104 true _ A9.out).mono ?_); rintro e w17 ⟨rfl, hb⟩; refine ⟨_, rfl, ?_⟩; have n0_ := Aside0.mk (Kd.R_below (by (with_reducible repeat (first | apply Kd.R_alloc | apply Kd.R_drewN | apply Kd.R_drew)); exact HO_6.out) hb); have n1_ := Aside0.mk (below_step (by repeat (first | (with_reducible first | exact HB.out | apply below_alloc | apply pw_below_drewN | apply below_drew1) | exact HB.out)) hb); clear HO_6; clear HB; have HO_6 := n0_; have HB := n1_; clear n0_ n1_; (try clear hb); (try clear hb2); (try clear hk); (try clear hi)) | ((with_reducible refine gate_builtin (b := .append) (xs := #[.tmp 41, .tmp 42]) rfl ?_); at_builtin; refine Kd.R_append (Kd.int .u8) (w0 := w) w.heap.size rfl (.tmp 41) (.tmp 42) 79 5 (.int .u8 0) 1 rfl Tryd.underlying79 info5 rfl (by decide) (by omega) u6 x6_1 32 [.int .u8 32] (fun _ => True) (fun _ => False) rfl rfl ?aP (fun _ hk => hk.elim) ?aF ?aO ?aB ?aS ?aL ?_; (case aP => exact rfl); (case aB => exact (by repeat (first | (with_reducible first | exact HB.out | apply below_alloc | apply pw_below_drewN | apply below_drew1) | exact HB.out))); (case aF => exact (fun _ _ => trivial)); (case aO => exact (by (with_reducible repeat (first | apply Kd.R_alloc | apply Kd.R_drewN | apply Kd.R_drew)); exact HO_6.out)); (case aS => exact (below_size (by repeat (first | (with_reducible first | exact HB.out | apply below_alloc | apply pw_below_drewN | apply below_drew1) | exact HB.out)))); (case aL => have := LMc16.out; omega); intro v110 w18 ho hb hg hat; rw [← Ny109.out] at ho; have n0_ := Aside0.mk (hb); have n1_ := Aside0.mk (ho); clear HB; clear HO_6; have HB := n0_; have HO111 := n1_; clear n0_ n1_; clear ho hb hg hat))
                    go_roundg kj3
                    case measure => have := HK1.out; have := HJ3.out; omega
                    case rel => exact ⟨(y109), (x7_3), (wrap64 (x8_1 + 1)), (wrap64 (x9_1 + t104)), (by first | rfl | (simp; done) | (simp [*]; done)), (by first | rfl | (simp; done) | (simp [*]; done)), (by first | rfl | (simp; done) | (simp [*]; done)), H', ⟨by have := HK1.out; have := HJ3.out; omega⟩, ⟨by (with_reducible repeat (first | apply Kd.R_alloc | apply Kd.R_drewN | apply Kd.R_drew)); exact HO111.out⟩, ⟨by repeat (first | (with_reducible first | exact HB.out | apply below_alloc | apply pw_below_drewN | apply below_drew1) | exact HB.out)⟩⟩
                  · rw [if_neg c16] at H
                    exact absurd H (by simp)
                · rw [if_neg c15] at H
                  have c15b0 : (t103 == 127) = false := beq_eq_false_iff_ne.mpr c15
                  have c15b1 : (t103 != 127) = true := bne_iff_ne.mpr c15
                  by_cases c19 : 0 ≤ x9_1
                  · rw [if_pos c19] at H
                    have c19b0 := eq_true c19
                    have c19b1 : decide (0 ≤ x9_1) = true := decide_eq_true c19
                    clear c19
                    by_cases c20 : x9_1 ≤ (wrap64 (x9_1 + t104))
                    · rw [if_pos c20] at H
                      have c20b0 := eq_true c20
                      have c20b1 : decide (x9_1 ≤ (wrap64 (x9_1 + t104))) = true := decide_eq_true c20
                      by_cases c21 : (wrap64 (x9_1 + t104)) ≤ (a0.size : Int)
                      · rw [if_pos c21] at H
                        have c21b0 := eq_true c21
                        have c21b1 : decide ((wrap64 (x9_1 + t104)) ≤ (a0.size : Int)) = true := decide_eq_true c21
                        by_cases c22 : x6_1.length + (cutS a0 (x9_1 : Int).toNat ((wrap64 (x9_1 + t104)) : Int).toNat).size < 140737488355328
                        · rw [if_pos c22] at H
                          have LMc22 := Aside0.mk c22
                          clear c22
                          obtain ⟨y112, hy112⟩ : ∃ y_ : List Int, y_ = (x6_1 ++ bytesOf (cutS a0 (x9_1 : Int).toNat ((wrap64 (x9_1 + t104)) : Int).toNat)) := ⟨_, rfl⟩
                          replace H : (colophonref20_shown.l0 kj3 a0 a1 y112 x7_3 (wrap64 (x8_1 + 1)) (wrap64 (x9_1 + t104))) = some (r1, r2) := by first | (rw [hy112]; with_reducible exact H) | (have H2_ := (Option.bind_some _ _).symm.trans H; rw [hy112]; with_reducible exact H2_) | (have H2_ := (Option.bind_some _ _).symm.trans H; with_reducible exact H2_) | with_reducible exact H | (rw [hy112]; exact H) | exact H
                          have Ny112 := Aside0.mk hy112
                          clear hy112
                          have H' := Aside0.mk H
                          clear H
                          go_wp2_with (first | ((with_reducible refine gate_callee (f := 98) rfl ?_); refine goesL_ (some 26) rfl rfl Tryd.func98 (by kernel_rfl) rfl #[.string a0, .int .i64 x9_1] rfl (by (try simp only [List.map_toArray, List.map_cons, List.map_nil]); first | done | rfl | (simp only [List.length_drop, List.length_take]; rfl)) ?_; (with_reducible refine (colophonref01_Next.calls a0 x9_1 t103 t104 true _ A9.out).mono ?_); rintro e w23 ⟨rfl, hb⟩; refine ⟨_, rfl, ?_⟩; have n0_ := Aside0.mk (Kd.R_below (by (with_reducible repeat (first | apply Kd.R_alloc | apply Kd.R_drewN | apply Kd.R_drew)); exact HO_6.out) hb); have n1_ := Aside0.mk (below_step (by repeat (first | (with_reducible first | exact HB.out | apply below_alloc | apply pw_below_drewN | apply below_drew1) | exact HB.out)) hb); clear HO_6; clear HB; have HO_6 := n0_; have HB := n1_; clear n0_ n1_; (try clear hb); (try clear hb2); (try clear hk); (try clear hi)) | (at_builtin; refine print_append_str (w0 := w) w.heap.size rfl (.tmp 44) _ 79 9 5 rfl Tryd.underlying79 Tryd.underlying9 info5 u6 x6_1 (cutS a0 (x9_1 : Int).toNat ((wrap64 (x9_1 + t104)) : Int).toNat) rfl rfl ?aO ?aB ?aS ?aL ?_; (case aB => exact (by repeat (first | (with_reducible first | exact HB.out | apply below_alloc | apply pw_below_drewN | apply below_drew1) | exact HB.out))); (case aO => exact (Kd.own_of_R (by (with_reducible repeat (first | apply Kd.R_alloc | apply Kd.R_drewN | apply Kd.R_drew)); exact HO_6.out))); (case aS => exact (below_size (by repeat (first | (with_reducible first | exact HB.out | apply below_alloc | apply pw_below_drewN | apply below_drew1) | exact HB.out)))); (case aL => have := LMc22.out; omega); intro v113 w24 ho0 hb hg; have ho := Kd.R_of_own (h1 := fun _ => rfl) (ok := fun _ => True) ho0 (fun _ _ => trivial); clear ho0; have hat := True.intro; rw [← Ny112.out] at ho; change Kd.R (Kd.int .u8) 5 w24 w.heap.size (fun _ => True) v113 y112 at ho; have n0_ := Aside0.mk (hb); have n1_ := Aside0.mk (ho); clear HB; clear HO_6; have HB := n0_; have HO114 := n1_; clear n0_ n1_; clear ho hb hg hat))
                          go_roundg kj3
                          case measure => have := HK1.out; have := HJ3.out; omega
                          case rel => exact ⟨(y112), (x7_3), (wrap64 (x8_1 + 1)), (wrap64 (x9_1 + t104)), (by first | rfl | (simp; done) | (simp [*]; done)), (by first | rfl | (simp; done) | (simp [*]; done)), (by first | rfl | (simp; done) | (simp [*]; done)), H', ⟨by have := HK1.out; have := HJ3.out; omega⟩, ⟨by (with_reducible repeat (first | apply Kd.R_alloc | apply Kd.R_drewN | apply Kd.R_drew)); exact HO114.out⟩, ⟨by repeat (first | (with_reducible first | exact HB.out | apply below_alloc | apply pw_below_drewN | apply below_drew1) | exact HB.out)⟩⟩
                        · rw [if_neg c22] at H
                          exact absurd H (by simp)
                      · rw [if_neg c21] at H
                        exact absurd H (by simp)
                    · rw [if_neg c20] at H
                      exact absurd H (by simp)
                  · rw [if_neg c19] at H
                    exact absurd H (by simp)
            · replace c10 := Bool.eq_false_iff.mpr c10
              subst c10
              have H1 : ((some (([239, 191, 189] : List Int) : List Int)).bind fun y115 => (if x6_1.length + y115.length < 140737488355328 then (colophonref20_shown.l0 kj3 a0 a1 (x6_1 ++ y115) x7_3 (wrap64 (x8_1 + 1)) (wrap64 (x9_1 + t104))) else (none))) = some (r1, r2) := by rw [if_neg (show ¬ (false = true) by decide)] at H; exact H
              clear H
              have H := H1
              clear H1
              obtain ⟨y115, hy115⟩ : ∃ y_ : List Int, y_ = (([239, 191, 189] : List Int)) := ⟨_, rfl⟩
              replace H : (if x6_1.length + y115.length < 140737488355328 then (colophonref20_shown.l0 kj3 a0 a1 (x6_1 ++ y115) x7_3 (wrap64 (x8_1 + 1)) (wrap64 (x9_1 + t104))) else (none)) = some (r1, r2) := by first | (rw [hy115]; with_reducible exact H) | (have H2_ := (Option.bind_some _ _).symm.trans H; rw [hy115]; with_reducible exact H2_) | (have H2_ := (Option.bind_some _ _).symm.trans H; with_reducible exact H2_) | with_reducible exact H | (rw [hy115]; exact H) | exact H
              have Ny115 := Aside0.mk hy115
              clear hy115
              by_cases c25 : x6_1.length + y115.length < 140737488355328
              · rw [if_pos c25] at H
                have LMc25 := Aside0.mk c25
                clear c25
                obtain ⟨y118, hy118⟩ : ∃ y_ : List Int, y_ = (x6_1 ++ y115) := ⟨_, rfl⟩
                replace H : (colophonref20_shown.l0 kj3 a0 a1 y118 x7_3 (wrap64 (x8_1 + 1)) (wrap64 (x9_1 + t104))) = some (r1, r2) := by first | (rw [hy118]; with_reducible exact H) | (have H2_ := (Option.bind_some _ _).symm.trans H; rw [hy118]; with_reducible exact H2_) | (have H2_ := (Option.bind_some _ _).symm.trans H; with_reducible exact H2_) | with_reducible exact H | (rw [hy118]; exact H) | exact H
                have Ny118 := Aside0.mk hy118
                clear hy118
                have H' := Aside0.mk H
                clear H
                go_wp2_with (first | ((with_reducible refine gate_callee (f := 98) rfl ?_); refine goesL_ (some 26) rfl rfl Tryd.func98 (by kernel_rfl) rfl #[.string a0, .int .i64 x9_1] rfl (by (try simp only [List.map_toArray, List.map_cons, List.map_nil]); first | done | rfl | (simp only [List.length_drop, List.length_take]; rfl)) ?_; (with_reducible refine (colophonref01_Next.calls a0 x9_1 t103 t104 false _ A9.out).mono ?_); rintro e w26 ⟨rfl, hb⟩; refine ⟨_, rfl, ?_⟩; have n0_ := Aside0.mk (Kd.R_below (by (with_reducible repeat (first | apply Kd.R_alloc | apply Kd.R_drewN | apply Kd.R_drew)); exact HO_6.out) hb); have n1_ := Aside0.mk (below_step (by repeat (first | (with_reducible first | exact HB.out | apply below_alloc | apply pw_below_drewN | apply below_drew1) | exact HB.out)) hb); clear HO_6; clear HB; have HO_6 := n0_; have HB := n1_; clear n0_ n1_; (try clear hb); (try clear hb2); (try clear hk); (try clear hi)) | ((with_reducible refine gate_dst (N := 33) rfl ?_); refine Kd.R_lit (Kd.int .u8) _ 5 ?hg (N := 33) ?hd (xs := ([239, 191, 189] : List Int)) (inner := [.int .u8 239, .int .u8 191, .int .u8 189]) (ok := fun _ => True) (okp := fun _ => True) ?hr ?hp (fun _ hk => hk) trivial (Below.refl _ _) (Nat.le_refl _) (by simp) ?_; (case hd => rfl); (case hg => rfl); (case hr => first | (go_simp; done) | (go_simp; rfl)); (case hp => exact (Reps.one (show Kd.M (Kd.int .u8) _ _ _ 239 [.int .u8 239] from rfl) (Reps.one (show Kd.M (Kd.int .u8) _ _ _ 191 [.int .u8 191] from rfl) (Reps.one (show Kd.M (Kd.int .u8) _ _ _ 189 [.int .u8 189] from rfl) (Reps.none _ _))))); intro v116 w27 ho28 hb hg_ hnew_; clear hg_ hnew_; (first | rw [← Ny115.out] at ho28 | (simp only [Int.reduceToNat] at ho28; rw [← Ny115.out] at ho28)); have n0_ := Aside0.mk (Kd.R_elder' (by (with_reducible repeat (first | apply Kd.R_alloc | apply Kd.R_drewN | apply Kd.R_drew)); exact HO_6.out) (Kd.R_base ho28) hb); have n1_ := Aside0.mk (Kd.R_lower (Kd.R_new' ho28 (Kd.R_lt (by (with_reducible repeat (first | apply Kd.R_alloc | apply Kd.R_drewN | apply Kd.R_drew)); exact HO_6.out))) (below_size (by repeat (first | (with_reducible first | exact HB.out | apply below_alloc | apply pw_below_drewN | apply below_drew1) | exact HB.out)))); have n2_ := Aside0.mk (below_step (by repeat (first | (with_reducible first | exact HB.out | apply below_alloc | apply pw_below_drewN | apply below_drew1) | exact HB.out)) hb); clear HO_6; clear HB; have HO_6 := n0_; have HO117 := n1_; have HB := n2_; clear n0_ n1_ n2_; clear hb ho28; obtain ⟨Ao30, co30, eo30⟩ := Kd.R_slice HO117.out; subst eo30) | ((with_reducible refine gate_builtin (b := .append) (xs := #[.tmp 32, .tmp 33]) rfl ?_); at_builtin; refine Kd.R_append_rows (Kd.int .u8) (w0 := w) w.heap.size rfl (.tmp 32) (.tmp 33) 79 5 (.int .u8 0) 1 rfl Tryd.underlying79 info5 rfl (by decide) (by omega) u6 x6_1 y115 _ _ _ (fun k_ => some k_ ≠ (.slice Ao30 y115.length co30 : Value).ownBlock) (fun _ => False) rfl rfl ?aO ?aR (fun _ _ h => h) (fun _ h => h.elim) ?aF ?aB ?aS ?aL ?_; (case aR => repeat (first | exact (Kd.R_reads' HO117.out).2.2 | (with_reducible refine Kd.C_alloc ?_ _) | (with_reducible refine Kd.C_drewN ?_ _) | (with_reducible refine Kd.C_drew ?_))); (case aB => exact (by repeat (first | (with_reducible first | exact HB.out | apply below_alloc | apply pw_below_drewN | apply below_drew1) | exact HB.out))); (case aF => exact (fun k_ hk => Kd.fresh' (Kd.R_lt (by (with_reducible repeat (first | apply Kd.R_alloc | apply Kd.R_drewN | apply Kd.R_drew)); exact HO117.out)) k_ hk)); (case aO => exact (by (with_reducible repeat (first | apply Kd.R_alloc | apply Kd.R_drewN | apply Kd.R_drew)); exact Kd.R_mono HO_6.out (fun _ hk => hk.2))); (case aS => exact (below_size (by repeat (first | (with_reducible first | exact HB.out | apply below_alloc | apply pw_below_drewN | apply below_drew1) | exact HB.out)))); (case aL => have := LMc25.out; omega); intro v119 w29 ho hb hg hat; rw [← Ny118.out] at ho; have n0_ := Aside0.mk (Kd.R_after (ok := (fun _ => True)) (by (with_reducible repeat (first | apply Kd.R_alloc | apply Kd.R_drewN | apply Kd.R_drew)); exact HO117.out) hg hat); have n1_ := Aside0.mk (hb); have n2_ := Aside0.mk (ho); clear HO117; clear HB; clear HO_6; have HO117 := n0_; have HB := n1_; have HO120 := n2_; clear n0_ n1_ n2_; clear ho hb hg hat))
                go_roundg kj3
                case measure => have := HK1.out; have := HJ3.out; omega
                case rel => exact ⟨(y118), (x7_3), (wrap64 (x8_1 + 1)), (wrap64 (x9_1 + t104)), (by first | rfl | (simp; done) | (simp [*]; done)), (by first | rfl | (simp; done) | (simp [*]; done)), (by first | rfl | (simp; done) | (simp [*]; done)), H', ⟨by have := HK1.out; have := HJ3.out; omega⟩, ⟨by (with_reducible repeat (first | apply Kd.R_alloc | apply Kd.R_drewN | apply Kd.R_drew)); exact Kd.R_mono HO120.out (fun _ hk => trivial)⟩, ⟨by repeat (first | (with_reducible first | exact HB.out | apply below_alloc | apply pw_below_drewN | apply below_drew1) | exact HB.out)⟩⟩
              · rw [if_neg c25] at H
                exact absurd H (by simp)
      · rw [if_neg c3] at H
        have c3b0 : decide (x9_1 < (a0.size : Int)) = false := decide_eq_false c3
        clear c3
        by_cases c31 : x8_1 = a1
        · rw [if_pos c31] at H
          have c31b0 : (x8_1 == a1) = true := beq_iff_eq.mpr c31
          have c31b1 : (x8_1 != a1) = false := bne_eq_false_iff_eq.mpr c31
          clear c31
          replace H := Option.bind_eq_some_iff.mp H
          obtain ⟨t101, A320, H⟩ := H
          replace H : (some (strOfNums x6_1, t101)) = some (r1, r2) := H
          have A32 := Aside0.mk A320
          clear A320
          simp only [Option.some.injEq, Prod.mk.injEq] at H
          obtain ⟨rfl, rfl⟩ := H
          have hcv33 := own_string (P := Tryd.prog) Tryd.underlying79 Tryd.underlying5 Tryd.underlying9 (Kd.own_of_R HO_6.out)
          go_wp2_with (first | ((with_reducible refine gate_callee (f := 97) rfl ?_); refine goesL_ (some 62) rfl rfl Tryd.func97 (by kernel_rfl) rfl #[.string (strOfNums x6_1)] rfl (by (try simp only [List.map_toArray, List.map_cons, List.map_nil]); first | done | rfl | (simp only [List.length_drop, List.length_take]; rfl)) ?_; (with_reducible refine (colophonref02_Text.calls (strOfNums x6_1) t101 _ A32.out).mono ?_); rintro e w34 ⟨rfl, hb⟩; refine ⟨_, rfl, ?_⟩; have n0_ := Aside0.mk (Kd.R_below (by (with_reducible repeat (first | apply Kd.R_alloc | apply Kd.R_drewN | apply Kd.R_drew)); exact HO_6.out) hb); have n1_ := Aside0.mk (below_step (by repeat (first | (with_reducible first | exact HB.out | apply below_alloc | apply pw_below_drewN | apply below_drew1) | exact HB.out)) hb); clear HO_6; clear HB; have HO_6 := n0_; have HB := n1_; clear n0_ n1_; (try clear hb); (try clear hb2); (try clear hk); (try clear hi); have hcv35 := own_string (P := Tryd.prog) Tryd.underlying79 Tryd.underlying5 Tryd.underlying9 (Kd.own_of_R HO_6.out)))
          go_ret2
          exact ⟨by first | rfl | (simp [errW_none, errW_some] <;> rfl) | (simp [*, errW_none, errW_some] <;> rfl), by repeat (first | (with_reducible first | exact HB.out | apply below_alloc | apply pw_below_drewN | apply below_drew1) | exact HB.out)⟩
        · rw [if_neg c31] at H
          have c31b0 : (x8_1 == a1) = false := beq_eq_false_iff_ne.mpr c31
          have c31b1 : (x8_1 != a1) = true := bne_iff_ne.mpr c31
          simp only [Option.some.injEq, Prod.mk.injEq] at H
          obtain ⟨rfl, rfl⟩ := H
          have hcv36 := own_string (P := Tryd.prog) Tryd.underlying79 Tryd.underlying5 Tryd.underlying9 (Kd.own_of_R HO_6.out)
          go_wp2
          go_ret2
          exact ⟨by first | rfl | (simp [errW_none, errW_some] <;> rfl) | (simp [*, errW_none, errW_some] <;> rfl), by repeat (first | (with_reducible first | exact HB.out | apply below_alloc | apply pw_below_drewN | apply below_drew1) | exact HB.out)⟩

/-! ### colophonref20_Show: function 28 -/
mutual
def colophonref20_Show.j0 : Nat → ByteArray → ByteArray → Bool → Int → Int → Int → Int → Option (ByteArray)
  | 0, _, _, _, _, _, _, _ => none
  | k + 1, x7, x8, x33, x122000, x122001, x122002, x122003 => if x33 = true then (some x7) else ((colophonref01_Count.f x8).bind fun t125 => (if x122003 > (wrap64 (t125 + 1)) then (some x7) else ((colophonref20_shown.f k x8 (wrap64 (x122003 - 1))).bind fun bt126 => (if x7.size + 2 ≤ 9223372036854775807 then (if (x7 ++ (⟨#[32, 32]⟩ : ByteArray)).size + bt126.1.size ≤ 9223372036854775807 then (if ((x7 ++ (⟨#[32, 32]⟩ : ByteArray)) ++ bt126.1).size + 3 ≤ 9223372036854775807 then (colophonref20_Show.l0 k (((x7 ++ (⟨#[32, 32]⟩ : ByteArray)) ++ bt126.1) ++ (⟨#[10, 32, 32]⟩ : ByteArray)) bt126.2 ([] : List Int) 0) else (none)) else (none)) else (none)))))
def colophonref20_Show.l0 : Nat → ByteArray → Int → List Int → Int → Option (ByteArray)
  | 0, _, _, _, _ => none
  | k + 1, x7, x12, x13, x14 => if x14 < x12 then (if x13.length < 140737488355328 then (colophonref20_Show.l0 k x7 x12 (x13 ++ [32]) (wrap64 (x14 + 1))) else (none)) else (if x7.size + (strOfNums x13).size ≤ 9223372036854775807 then (if (x7 ++ (strOfNums x13)).size + 2 ≤ 9223372036854775807 then (some ((x7 ++ (strOfNums x13)) ++ (⟨#[94, 10]⟩ : ByteArray))) else (none)) else (none))
end
def colophonref20_Show.f (k : Nat) (a0 : ByteArray) (a1 : ByteArray) (a2_0 : Int) (a2_1 : Int) (a2_2 : Int) (a2_3 : Int) : Option (ByteArray) := (colophonref20_Head.f a0 a2_0 a2_1 a2_2 a2_3).bind fun t122 => ((colophonref03_Line.f a1 a2_2).bind fun bt123 => (if bt123.2 = true then (colophonref20_Show.j0 k t122 bt123.1 (decide (a2_3 < 1)) a2_0 a2_1 a2_2 a2_3) else (colophonref20_Show.j0 k t122 bt123.1 true a2_0 a2_1 a2_2 a2_3)))
theorem colophonref20_Show.mono_l : ∀ k, (∀ y0 y1 y2 y3 y4 y5 y6, LeO (colophonref20_Show.j0 k y0 y1 y2 y3 y4 y5 y6) (colophonref20_Show.j0 (k + 1) y0 y1 y2 y3 y4 y5 y6)) ∧ (∀ y0 y1 y2 y3, LeO (colophonref20_Show.l0 k y0 y1 y2 y3) (colophonref20_Show.l0 (k + 1) y0 y1 y2 y3))
  | 0 => ⟨fun _ _ _ _ _ _ _ r h => by simp [colophonref20_Show.j0] at h, fun _ _ _ _ r h => by simp [colophonref20_Show.l0] at h⟩
  | k + 1 => by
    obtain ⟨ih0, ih1⟩ := colophonref20_Show.mono_l k
    refine ⟨?_, ?_⟩
    · intro y0 y1 y2 y3 y4 y5 y6
      unfold colophonref20_Show.j0
      repeat' first
      | (with_reducible exact ih0 _ _ _ _ _ _ _)
      | (with_reducible exact ih1 _ _ _ _)
      | (with_reducible exact colophonref20_shown.mono _ _ _)
      | (with_reducible exact LeO.refl _)
      | (with_reducible exact LeO.none _)
      | (with_reducible refine LeO.ite ?_ ?_)
      | (with_reducible refine LeO.bind ?_ (fun _ => ?_))
      | exact ih0 _ _ _ _ _ _ _
      | exact ih1 _ _ _ _
      | exact colophonref20_shown.mono _ _ _
      | exact LeO.none _
      | refine LeO.ite ?_ ?_
      | refine LeO.bind ?_ (fun _ => ?_)
    · intro y0 y1 y2 y3
      unfold colophonref20_Show.l0
      repeat' first
      | (with_reducible exact ih0 _ _ _ _ _ _ _)
      | (with_reducible exact ih1 _ _ _ _)
      | (with_reducible exact colophonref20_shown.mono _ _ _)
      | (with_reducible exact LeO.refl _)
      | (with_reducible exact LeO.none _)
      | (with_reducible refine LeO.ite ?_ ?_)
      | (with_reducible refine LeO.bind ?_ (fun _ => ?_))
      | exact ih0 _ _ _ _ _ _ _
      | exact ih1 _ _ _ _
      | exact colophonref20_shown.mono _ _ _
      | exact LeO.none _
      | refine LeO.ite ?_ ?_
      | refine LeO.bind ?_ (fun _ => ?_)
theorem colophonref20_Show.mono : ∀ a0 a1 a2 a3 a4 a5 k, LeO (colophonref20_Show.f k a0 a1 a2 a3 a4 a5) (colophonref20_Show.f (k + 1) a0 a1 a2 a3 a4 a5) := by
  intro a0 a1 a2 a3 a4 a5 k
  obtain ⟨ih0, ih1⟩ := colophonref20_Show.mono_l k
  unfold colophonref20_Show.f
  repeat' first
      | (with_reducible exact ih0 _ _ _ _ _ _ _)
      | (with_reducible exact ih1 _ _ _ _)
      | (with_reducible exact colophonref20_shown.mono _ _ _)
      | (with_reducible exact LeO.refl _)
      | (with_reducible exact LeO.none _)
      | (with_reducible refine LeO.ite ?_ ?_)
      | (with_reducible refine LeO.bind ?_ (fun _ => ?_))
      | exact ih0 _ _ _ _ _ _ _
      | exact ih1 _ _ _ _
      | exact colophonref20_shown.mono _ _ _
      | exact LeO.none _
      | refine LeO.ite ?_ ?_
      | refine LeO.bind ?_ (fun _ => ?_)
set_option maxHeartbeats 8000000 in
set_option maxRecDepth 100000 in
theorem colophonref20_Show.calls (k : Nat) (a0 : ByteArray) (a1 : ByteArray) (a2_0 : Int) (a2_1 : Int) (a2_2 : Int) (a2_3 : Int) (r : ByteArray) (w : World) (h : colophonref20_Show.f k a0 a1 a2_0 a2_1 a2_2 a2_3 = some r) (hT : RepW w) :
    Calls Tryd.prog 28 #[.string a0, .string a1, .agg #[.int .i64 a2_0, .int .i64 a2_1, .int .i64 a2_2, .int .i64 a2_3]] w fun e w' => e = .returned (.string r) ∧ Below w.heap.size w w' := by
  have hu52 := Tryd.underlying52
  have HB := Aside0.mk (Below.refl w.heap.size w)
  have H : ((colophonref20_Head.f a0 a2_0 a2_1 a2_2 a2_3).bind fun t122 => ((colophonref03_Line.f a1 a2_2).bind fun bt123 => (if bt123.2 = true then (colophonref20_Show.j0 k t122 bt123.1 (decide (a2_3 < 1)) a2_0 a2_1 a2_2 a2_3) else (colophonref20_Show.j0 k t122 bt123.1 true a2_0 a2_1 a2_2 a2_3)))) = some r := h
  clear h
  replace H := Option.bind_eq_some_iff.mp H
  obtain ⟨t122, A40, H⟩ := H
  replace H : ((colophonref03_Line.f a1 a2_2).bind fun bt123 => (if bt123.2 = true then (colophonref20_Show.j0 k t122 bt123.1 (decide (a2_3 < 1)) a2_0 a2_1 a2_2 a2_3) else (colophonref20_Show.j0 k t122 bt123.1 true a2_0 a2_1 a2_2 a2_3))) = some r := H
  have A4 := Aside0.mk A40
  clear A40
  replace H := Option.bind_eq_some_iff.mp H
  obtain ⟨⟨t123, t124⟩, A50, H⟩ := H
  replace H : (if t124 = true then (colophonref20_Show.j0 k t122 t123 (decide (a2_3 < 1)) a2_0 a2_1 a2_2 a2_3) else (colophonref20_Show.j0 k t122 t123 true a2_0 a2_1 a2_2 a2_3)) = some r := H
  have A5 := Aside0.mk A50
  clear A50
  have HC6 := Aside0.mk H
  clear H
  go_enter Tryd.func28, Tryd.ntmps28
  go_upto_region 3 with (first | ((with_reducible refine gate_dst (N := 5) rfl ?_); refine box_event ?hg (N := 5) ?hd (cs := #[.int .i64 a2_0, .int .i64 a2_1, .int .i64 a2_2, .int .i64 a2_3]) (t := 52) ?hr ?_; (case hd => rfl); (case hg => rfl); (case hr => first | (go_simp; done) | (go_simp; rfl)); intro gb121 hg w7 hbox hb; have n0_ := Aside0.mk (below_step (by repeat (first | (with_reducible first | exact HB.out | apply below_alloc | apply pw_below_drewN | apply below_drew1) | exact HB.out)) hb); have n1_ := Aside0.mk (hbox); have n2_ := Aside0.mk ((by rw [hg]; exact (below_size (by repeat (first | (with_reducible first | exact HB.out | apply below_alloc | apply pw_below_drewN | apply below_drew1) | exact HB.out))) : w.heap.size ≤ gb121)); have n3_ := Aside0.mk ((by rw [hg]; exact (below_size (by repeat (first | (with_reducible first | exact HB.out | apply below_alloc | apply pw_below_drewN | apply below_drew1) | exact HB.out))) : w.heap.size ≤ gb121)); clear HB; have HB := n0_; have BK121 := n1_; have GW121 := n2_; have GE121 := n3_; clear n0_ n1_ n2_ n3_; clear hb hbox hg; have hcz8_0 : w7.cell? ⟨gb121, 0, none⟩ = some (.int .i64 a2_0) := (blk_cell BK121.out 0).trans rfl; have hcz8_1 : w7.cell? ⟨gb121, 1, none⟩ = some (.int .i64 a2_1) := (blk_cell BK121.out 1).trans rfl; have hcz8_2 : w7.cell? ⟨gb121, 2, none⟩ = some (.int .i64 a2_2) := (blk_cell BK121.out 2).trans rfl; have hcz8_3 : w7.cell? ⟨gb121, 3, none⟩ = some (.int .i64 a2_3) := (blk_cell BK121.out 3).trans rfl; have hfz8_0 := blk_frozen BK121.out 0; have hfz8_1 := blk_frozen BK121.out 1; have hfz8_2 := blk_frozen BK121.out 2; have hfz8_3 := blk_frozen BK121.out 3) | ((with_reducible refine gate_callee (f := 50) rfl ?_); refine goesL_ (some 17) rfl rfl Tryd.func50 (by kernel_rfl) rfl #[.string a0, .agg #[.int .i64 a2_0, .int .i64 a2_1, .int .i64 a2_2, .int .i64 a2_3]] rfl (by (try simp only [List.map_toArray, List.map_cons, List.map_nil]); first | done | rfl | (simp only [List.length_drop, List.length_take]; rfl)) ?_; (with_reducible refine (colophonref20_Head.calls a0 a2_0 a2_1 a2_2 a2_3 t122 _ A4.out ?sideT).mono ?_); (case sideT => exact RepW.below hT (by repeat (first | (with_reducible first | exact HB.out | apply below_alloc | apply pw_below_drewN | apply below_drew1) | exact HB.out | refine below_set ?_ (Aside0.out (by assumption))))); rintro e w9 ⟨rfl, hb⟩; refine ⟨_, rfl, ?_⟩; have n0_ := Aside0.mk (blk_below (g := gb121) (o := .cells #[.int .i64 a2_0, .int .i64 a2_1, .int .i64 a2_2, .int .i64 a2_3] 52 (0, 0)) (by (with_reducible repeat (first | refine blk_drewN ?_ _ | refine blk_drew ?_ | refine blk_alloc ?_ _)); exact BK121.out) hb); have n1_ := Aside0.mk (below_step (by repeat (first | (with_reducible first | exact HB.out | apply below_alloc | apply pw_below_drewN | apply below_drew1 | refine below_set ?_ GE121.out) | exact HB.out)) hb); clear BK121; clear HB; have BK121 := n0_; have HB := n1_; clear n0_ n1_; (try clear hb); (try clear hb2); (try clear hk); (try clear hi); have hcz10_0 : w9.cell? ⟨gb121, 0, none⟩ = some (.int .i64 a2_0) := (blk_cell BK121.out 0).trans rfl; have hcz10_1 : w9.cell? ⟨gb121, 1, none⟩ = some (.int .i64 a2_1) := (blk_cell BK121.out 1).trans rfl; have hcz10_2 : w9.cell? ⟨gb121, 2, none⟩ = some (.int .i64 a2_2) := (blk_cell BK121.out 2).trans rfl; have hcz10_3 : w9.cell? ⟨gb121, 3, none⟩ = some (.int .i64 a2_3) := (blk_cell BK121.out 3).trans rfl; have hfz10_0 := blk_frozen BK121.out 0; have hfz10_1 := blk_frozen BK121.out 1; have hfz10_2 := blk_frozen BK121.out 2; have hfz10_3 := blk_frozen BK121.out 3) | ((with_reducible refine gate_callee (f := 51) rfl ?_); refine goesL_ (some 23) rfl rfl Tryd.func51 (by kernel_rfl) rfl #[.string a1, .int .i64 a2_2] rfl (by (try simp only [List.map_toArray, List.map_cons, List.map_nil]); first | done | rfl | (simp only [List.length_drop, List.length_take]; rfl)) ?_; (with_reducible refine (colophonref03_Line.calls a1 a2_2 t123 t124 _ A5.out).mono ?_); rintro e w11 ⟨rfl, hb⟩; refine ⟨_, rfl, ?_⟩; have n0_ := Aside0.mk (blk_below (g := gb121) (o := .cells #[.int .i64 a2_0, .int .i64 a2_1, .int .i64 a2_2, .int .i64 a2_3] 52 (0, 0)) (by (with_reducible repeat (first | refine blk_drewN ?_ _ | refine blk_drew ?_ | refine blk_alloc ?_ _)); exact BK121.out) hb); have n1_ := Aside0.mk (below_step (by repeat (first | (with_reducible first | exact HB.out | apply below_alloc | apply pw_below_drewN | apply below_drew1 | refine below_set ?_ GE121.out) | exact HB.out)) hb); clear BK121; clear HB; have BK121 := n0_; have HB := n1_; clear n0_ n1_; (try clear hb); (try clear hb2); (try clear hk); (try clear hi)))
  (try simp only [Act.put, List.setIfInBounds_toArray, List.set_cons_zero, List.set_cons_succ])
  go_cut [33] (fun v33 wc => ∃ (kq : Nat) (x33_5 : Bool), v33 = .bool x33_5 ∧ Aside0 (colophonref20_Show.j0 kq t122 t123 x33_5 a2_0 a2_1 a2_2 a2_3 = some r) ∧ Aside0 (kq ≤ k) ∧ Aside0 (wc.heap[gb121]? = some (.cells #[.int .i64 a2_0, .int .i64 a2_1, .int .i64 a2_2, .int .i64 a2_3] 52 (0, 0))) ∧ Aside0 (Below w.heap.size w wc))
  case first =>
    have H := HC6.out
    clear HC6
    by_cases c12 : t124 = true
    · subst c12
      have H1 : (colophonref20_Show.j0 k t122 t123 (decide (a2_3 < 1)) a2_0 a2_1 a2_2 a2_3) = some r := by rw [if_pos rfl] at H; exact H
      clear H
      have H := H1
      clear H1
      have H' := Aside0.mk H
      clear H
      have hcz13_0 : w11.cell? ⟨gb121, 0, none⟩ = some (.int .i64 a2_0) := (blk_cell BK121.out 0).trans rfl
      have hcz13_1 : w11.cell? ⟨gb121, 1, none⟩ = some (.int .i64 a2_1) := (blk_cell BK121.out 1).trans rfl
      have hcz13_2 : w11.cell? ⟨gb121, 2, none⟩ = some (.int .i64 a2_2) := (blk_cell BK121.out 2).trans rfl
      have hcz13_3 : w11.cell? ⟨gb121, 3, none⟩ = some (.int .i64 a2_3) := (blk_cell BK121.out 3).trans rfl
      have hfz13_0 := blk_frozen BK121.out 0
      have hfz13_1 := blk_frozen BK121.out 1
      have hfz13_2 := blk_frozen BK121.out 2
      have hfz13_3 := blk_frozen BK121.out 3
      go_wp2
      go_meet
      case rel => exact ⟨_, (decide (a2_3 < 1)), (by first | rfl | (simp; done) | (simp [*]; done)), H', ⟨by first | omega | exact Nat.le_refl _⟩, ⟨by (with_reducible repeat (first | refine blk_drewN ?_ _ | refine blk_drew ?_ | refine blk_alloc ?_ _)); exact BK121.out⟩, ⟨by repeat (first | (with_reducible first | exact HB.out | apply below_alloc | apply pw_below_drewN | apply below_drew1 | refine below_set ?_ GE121.out) | exact HB.out)⟩⟩
    · replace c12 := Bool.eq_false_iff.mpr c12
      subst c12
      have H1 : (colophonref20_Show.j0 k t122 t123 true a2_0 a2_1 a2_2 a2_3) = some r := by rw [if_neg (show ¬ (false = true) by decide)] at H; exact H
      clear H
      have H := H1
      clear H1
      have H' := Aside0.mk H
      clear H
      go_wp2
      go_meet
      case rel => exact ⟨_, (true), (by first | rfl | (simp; done) | (simp [*]; done)), H', ⟨by first | omega | exact Nat.le_refl _⟩, ⟨by (with_reducible repeat (first | refine blk_drewN ?_ _ | refine blk_drew ?_ | refine blk_alloc ?_ _)); exact BK121.out⟩, ⟨by repeat (first | (with_reducible first | exact HB.out | apply below_alloc | apply pw_below_drewN | apply below_drew1 | refine below_set ?_ GE121.out) | exact HB.out)⟩⟩
  case rest =>
    clear HC6
    try clear c1
    try clear c2
    try clear p2
    try clear c5
    try clear c12
    try clear hcz10_0
    try clear hcz10_1
    try clear hcz10_2
    try clear hcz10_3
    try clear hcz13_0
    try clear hcz13_1
    try clear hcz13_2
    try clear hcz13_3
    try clear hcz8_0
    try clear hcz8_1
    try clear hcz8_2
    try clear hcz8_3
    try clear hfz10_0
    try clear hfz10_1
    try clear hfz10_2
    try clear hfz10_3
    try clear hfz13_0
    try clear hfz13_1
    try clear hfz13_2
    try clear hfz13_3
    try clear hfz8_0
    try clear hfz8_1
    try clear hfz8_2
    try clear hfz8_3
    obtain ⟨kq, x33_5, rfl, HA, HJ5, BK121, HB⟩ := hcut
    cases kq with
    | zero => exact absurd HA.out (by simp [colophonref20_Show.j0])
    | succ kj5 =>
      have H := HA.out
      clear HA
      simp only [colophonref20_Show.j0] at H
      by_cases c14 : x33_5 = true
      · subst c14
        have H1 : (some t122) = some r := by rw [if_pos rfl] at H; exact H
        clear H
        have H := H1
        clear H1
        obtain rfl := Option.some.inj H
        go_wp2
        go_ret
        exact ⟨by first | rfl | (simp [errW_none, errW_some] <;> rfl) | (simp [*, errW_none, errW_some] <;> rfl), by repeat (first | (with_reducible first | exact HB.out | apply below_alloc | apply pw_below_drewN | apply below_drew1 | refine below_set ?_ GE121.out) | exact HB.out)⟩
      · replace c14 := Bool.eq_false_iff.mpr c14
        subst c14
        have H1 : ((colophonref01_Count.f t123).bind fun t125 => (if a2_3 > (wrap64 (t125 + 1)) then (some t122) else ((colophonref20_shown.f kj5 t123 (wrap64 (a2_3 - 1))).bind fun bt126 => (if t122.size + 2 ≤ 9223372036854775807 then (if (t122 ++ (⟨#[32, 32]⟩ : ByteArray)).size + bt126.1.size ≤ 9223372036854775807 then (if ((t122 ++ (⟨#[32, 32]⟩ : ByteArray)) ++ bt126.1).size + 3 ≤ 9223372036854775807 then (colophonref20_Show.l0 kj5 (((t122 ++ (⟨#[32, 32]⟩ : ByteArray)) ++ bt126.1) ++ (⟨#[10, 32, 32]⟩ : ByteArray)) bt126.2 ([] : List Int) 0) else (none)) else (none)) else (none))))) = some r := by rw [if_neg (show ¬ (false = true) by decide)] at H; exact H
        clear H
        have H := H1
        clear H1
        replace H := Option.bind_eq_some_iff.mp H
        obtain ⟨t125, A150, H⟩ := H
        replace H : (if a2_3 > (wrap64 (t125 + 1)) then (some t122) else ((colophonref20_shown.f kj5 t123 (wrap64 (a2_3 - 1))).bind fun bt126 => (if t122.size + 2 ≤ 9223372036854775807 then (if (t122 ++ (⟨#[32, 32]⟩ : ByteArray)).size + bt126.1.size ≤ 9223372036854775807 then (if ((t122 ++ (⟨#[32, 32]⟩ : ByteArray)) ++ bt126.1).size + 3 ≤ 9223372036854775807 then (colophonref20_Show.l0 kj5 (((t122 ++ (⟨#[32, 32]⟩ : ByteArray)) ++ bt126.1) ++ (⟨#[10, 32, 32]⟩ : ByteArray)) bt126.2 ([] : List Int) 0) else (none)) else (none)) else (none)))) = some r := H
        have A15 := Aside0.mk A150
        clear A150
        by_cases c16 : a2_3 > (wrap64 (t125 + 1))
        · rw [if_pos c16] at H
          have c16b0 : decide ((wrap64 (t125 + 1)) < a2_3) = true := decide_eq_true c16
          clear c16
          obtain rfl := Option.some.inj H
          go_wp2_with (first | ((with_reducible refine gate_callee (f := 52) rfl ?_); refine goesL_ (some 36) rfl rfl Tryd.func52 (by kernel_rfl) rfl #[.string t123] rfl (by (try simp only [List.map_toArray, List.map_cons, List.map_nil]); first | done | rfl | (simp only [List.length_drop, List.length_take]; rfl)) ?_; (with_reducible refine (colophonref01_Count.calls t123 t125 _ A15.out).mono ?_); rintro e w17 ⟨rfl, hb⟩; refine ⟨_, rfl, ?_⟩; have n0_ := Aside0.mk (blk_below (g := gb121) (o := .cells #[.int .i64 a2_0, .int .i64 a2_1, .int .i64 a2_2, .int .i64 a2_3] 52 (0, 0)) (by (with_reducible repeat (first | refine blk_drewN ?_ _ | refine blk_drew ?_ | refine blk_alloc ?_ _)); exact BK121.out) hb); have n1_ := Aside0.mk (below_step (by repeat (first | (with_reducible first | exact HB.out | apply below_alloc | apply pw_below_drewN | apply below_drew1 | refine below_set ?_ GE121.out) | exact HB.out)) hb); clear BK121; clear HB; have BK121 := n0_; have HB := n1_; clear n0_ n1_; (try clear hb); (try clear hb2); (try clear hk); (try clear hi); have hcz18_0 : w17.cell? ⟨gb121, 0, none⟩ = some (.int .i64 a2_0) := (blk_cell BK121.out 0).trans rfl; have hcz18_1 : w17.cell? ⟨gb121, 1, none⟩ = some (.int .i64 a2_1) := (blk_cell BK121.out 1).trans rfl; have hcz18_2 : w17.cell? ⟨gb121, 2, none⟩ = some (.int .i64 a2_2) := (blk_cell BK121.out 2).trans rfl; have hcz18_3 : w17.cell? ⟨gb121, 3, none⟩ = some (.int .i64 a2_3) := (blk_cell BK121.out 3).trans rfl; have hfz18_0 := blk_frozen BK121.out 0; have hfz18_1 := blk_frozen BK121.out 1; have hfz18_2 := blk_frozen BK121.out 2; have hfz18_3 := blk_frozen BK121.out 3))
          go_ret
          exact ⟨by first | rfl | (simp [errW_none, errW_some] <;> rfl) | (simp [*, errW_none, errW_some] <;> rfl), by repeat (first | (with_reducible first | exact HB.out | apply below_alloc | apply pw_below_drewN | apply below_drew1 | refine below_set ?_ GE121.out) | exact HB.out)⟩
        · rw [if_neg c16] at H
          have c16b0 : decide ((wrap64 (t125 + 1)) < a2_3) = false := decide_eq_false c16
          clear c16
          replace H := Option.bind_eq_some_iff.mp H
          obtain ⟨⟨t126, t127⟩, A190, H⟩ := H
          replace H : (if t122.size + 2 ≤ 9223372036854775807 then (if (t122 ++ (⟨#[32, 32]⟩ : ByteArray)).size + t126.size ≤ 9223372036854775807 then (if ((t122 ++ (⟨#[32, 32]⟩ : ByteArray)) ++ t126).size + 3 ≤ 9223372036854775807 then (colophonref20_Show.l0 kj5 (((t122 ++ (⟨#[32, 32]⟩ : ByteArray)) ++ t126) ++ (⟨#[10, 32, 32]⟩ : ByteArray)) t127 ([] : List Int) 0) else (none)) else (none)) else (none)) = some r := H
          have A19 := Aside0.mk A190
          clear A190
          by_cases c20 : t122.size + 2 ≤ 9223372036854775807
          · rw [if_pos c20] at H
            have c20b0 := eq_true c20
            have c20b1 : decide (t122.size + 2 ≤ 9223372036854775807) = true := decide_eq_true c20
            try have c20b2 : (9223372036854775807 < t122.size + 2) = False := eq_false (Nat.not_lt.2 c20)
            by_cases c21 : (t122 ++ (⟨#[32, 32]⟩ : ByteArray)).size + t126.size ≤ 9223372036854775807
            · rw [if_pos c21] at H
              have c21b0 := eq_true c21
              have c21b1 : decide ((t122 ++ (⟨#[32, 32]⟩ : ByteArray)).size + t126.size ≤ 9223372036854775807) = true := decide_eq_true c21
              try have c21b2 : (9223372036854775807 < (t122 ++ (⟨#[32, 32]⟩ : ByteArray)).size + t126.size) = False := eq_false (Nat.not_lt.2 c21)
              have c21b3 : (9223372036854775807 < t122.size + 2 + t126.size) = False := eq_false (by have h_ := c21; simp only [ByteArray.size_append] at h_; exact Nat.not_lt.2 h_)
              by_cases c22 : ((t122 ++ (⟨#[32, 32]⟩ : ByteArray)) ++ t126).size + 3 ≤ 9223372036854775807
              · rw [if_pos c22] at H
                have c22b0 := eq_true c22
                have c22b1 : decide (((t122 ++ (⟨#[32, 32]⟩ : ByteArray)) ++ t126).size + 3 ≤ 9223372036854775807) = true := decide_eq_true c22
                try have c22b2 : (9223372036854775807 < ((t122 ++ (⟨#[32, 32]⟩ : ByteArray)) ++ t126).size + 3) = False := eq_false (Nat.not_lt.2 c22)
                have c22b3 : (9223372036854775807 < t122.size + 2 + t126.size + 3) = False := eq_false (by have h_ := c22; simp only [ByteArray.size_append] at h_; exact Nat.not_lt.2 h_)
                have H' := Aside0.mk H
                clear H
                go_wp2_with (first | ((with_reducible refine gate_callee (f := 52) rfl ?_); refine goesL_ (some 36) rfl rfl Tryd.func52 (by kernel_rfl) rfl #[.string t123] rfl (by (try simp only [List.map_toArray, List.map_cons, List.map_nil]); first | done | rfl | (simp only [List.length_drop, List.length_take]; rfl)) ?_; (with_reducible refine (colophonref01_Count.calls t123 t125 _ A15.out).mono ?_); rintro e w23 ⟨rfl, hb⟩; refine ⟨_, rfl, ?_⟩; have n0_ := Aside0.mk (blk_below (g := gb121) (o := .cells #[.int .i64 a2_0, .int .i64 a2_1, .int .i64 a2_2, .int .i64 a2_3] 52 (0, 0)) (by (with_reducible repeat (first | refine blk_drewN ?_ _ | refine blk_drew ?_ | refine blk_alloc ?_ _)); exact BK121.out) hb); have n1_ := Aside0.mk (below_step (by repeat (first | (with_reducible first | exact HB.out | apply below_alloc | apply pw_below_drewN | apply below_drew1 | refine below_set ?_ GE121.out) | exact HB.out)) hb); clear BK121; clear HB; have BK121 := n0_; have HB := n1_; clear n0_ n1_; (try clear hb); (try clear hb2); (try clear hk); (try clear hi); have hcz24_0 : w23.cell? ⟨gb121, 0, none⟩ = some (.int .i64 a2_0) := (blk_cell BK121.out 0).trans rfl; have hcz24_1 : w23.cell? ⟨gb121, 1, none⟩ = some (.int .i64 a2_1) := (blk_cell BK121.out 1).trans rfl; have hcz24_2 : w23.cell? ⟨gb121, 2, none⟩ = some (.int .i64 a2_2) := (blk_cell BK121.out 2).trans rfl; have hcz24_3 : w23.cell? ⟨gb121, 3, none⟩ = some (.int .i64 a2_3) := (blk_cell BK121.out 3).trans rfl; have hfz24_0 := blk_frozen BK121.out 0; have hfz24_1 := blk_frozen BK121.out 1; have hfz24_2 := blk_frozen BK121.out 2; have hfz24_3 := blk_frozen BK121.out 3) | ((with_reducible refine gate_callee (f := 53) rfl ?_); refine goesL_ (some 50) rfl rfl Tryd.func53 (by kernel_rfl) rfl #[.string t123, .int .i64 (wrap64 (a2_3 - 1))] rfl (by (try simp only [List.map_toArray, List.map_cons, List.map_nil]); first | done | rfl | (simp only [List.length_drop, List.length_take]; rfl)) ?_; (with_reducible refine (colophonref20_shown.calls kj5 t123 (wrap64 (a2_3 - 1)) t126 t127 _ A19.out).mono ?_); rintro e w25 ⟨rfl, hb⟩; refine ⟨_, rfl, ?_⟩; have n0_ := Aside0.mk (blk_below (g := gb121) (o := .cells #[.int .i64 a2_0, .int .i64 a2_1, .int .i64 a2_2, .int .i64 a2_3] 52 (0, 0)) (by (with_reducible repeat (first | refine blk_drewN ?_ _ | refine blk_drew ?_ | refine blk_alloc ?_ _)); exact BK121.out) hb); have n1_ := Aside0.mk (below_step (by repeat (first | (with_reducible first | exact HB.out | apply below_alloc | apply pw_below_drewN | apply below_drew1 | refine below_set ?_ GE121.out) | exact HB.out)) hb); clear BK121; clear HB; have BK121 := n0_; have HB := n1_; clear n0_ n1_; (try clear hb); (try clear hb2); (try clear hk); (try clear hi)))
                go_loopg [13, 14] kj5 (fun kq v13 v14 w' => ∃ (x13_2 : List Int) (x14_2 : Int), v14 = .int .i64 x14_2 ∧ Aside0 (colophonref20_Show.l0 kq (((t122 ++ (⟨#[32, 32]⟩ : ByteArray)) ++ t126) ++ (⟨#[10, 32, 32]⟩ : ByteArray)) t127 x13_2 x14_2 = some r) ∧ Aside0 (kq ≤ kj5) ∧ Aside0 (Kd.R (Kd.int .u8) 5 w' w.heap.size (fun _ => True) v13 x13_2) ∧ Aside0 (w'.heap[gb121]? = some (.cells #[.int .i64 a2_0, .int .i64 a2_1, .int .i64 a2_2, .int .i64 a2_3] 52 (0, 0))) ∧ Aside0 (Below w.heap.size w w'))
                case atStart => exact ⟨(([] : List Int)), (0), (by first | rfl | (simp; done) | (simp [*]; done)), H', ⟨Nat.le_refl _⟩, ⟨by first | exact Kd.R_nil _ _ _ _ _ | exact Kd.N_nil _ _ _ _ _ | exact Kd.V_nil _ _ _ _ _ | exact Kd.Q_nil _ _ _ _ _ | exact Kd.S_nil _ _ _ _ _⟩, ⟨by (with_reducible repeat (first | refine blk_drewN ?_ _ | refine blk_drew ?_ | refine blk_alloc ?_ _)); exact BK121.out⟩, ⟨by repeat (first | (with_reducible first | exact HB.out | apply below_alloc | apply pw_below_drewN | apply below_drew1 | refine below_set ?_ GE121.out) | exact HB.out)⟩⟩
                case round =>
                  clear H'
                  try clear c1
                  try clear c2
                  try clear p2
                  try clear c5
                  try clear p6
                  try clear c12
                  try clear c14
                  try clear c16
                  try clear c16b0
                  try clear c20
                  try clear c20b0
                  try clear c20b1
                  try clear c20b2
                  try clear c21
                  try clear c21b0
                  try clear c21b1
                  try clear c21b2
                  try clear c22
                  try clear c22b0
                  try clear c22b1
                  try clear c22b2
                  try clear hcz10_0
                  try clear hcz10_1
                  try clear hcz10_2
                  try clear hcz10_3
                  try clear hcz13_0
                  try clear hcz13_1
                  try clear hcz13_2
                  try clear hcz13_3
                  try clear hcz18_0
                  try clear hcz18_1
                  try clear hcz18_2
                  try clear hcz18_3
                  try clear hcz24_0
                  try clear hcz24_1
                  try clear hcz24_2
                  try clear hcz24_3
                  try clear hcz8_0
                  try clear hcz8_1
                  try clear hcz8_2
                  try clear hcz8_3
                  try clear hfz10_0
                  try clear hfz10_1
                  try clear hfz10_2
                  try clear hfz10_3
                  try clear hfz13_0
                  try clear hfz13_1
                  try clear hfz13_2
                  try clear hfz13_3
                  try clear hfz18_0
                  try clear hfz18_1
                  try clear hfz18_2
                  try clear hfz18_3
                  try clear hfz24_0
                  try clear hfz24_1
                  try clear hfz24_2
                  try clear hfz24_3
                  try clear hfz8_0
                  try clear hfz8_1
                  try clear hfz8_2
                  try clear hfz8_3
                  try clear p2
                  obtain ⟨x13_2, x14_2, rfl, HA, HK2, HO_13, BK121, HB⟩ := hrel
                  cases gk with
                  | zero => exact absurd HA.out (by simp [colophonref20_Show.l0])
                  | succ k2 =>
                    have H := HA.out
                    clear HA
                    simp only [colophonref20_Show.l0] at H
                    by_cases c26 : x14_2 < t127
                    · rw [if_pos c26] at H
                      have c26b0 : decide (x14_2 < t127) = true := decide_eq_true c26
                      clear c26
                      by_cases c27 : x13_2.length < 140737488355328
                      · rw [if_pos c27] at H
                        have LMc27 := Aside0.mk c27
                        clear c27
                        obtain ⟨y128, hy128⟩ : ∃ y_ : List Int, y_ = (x13_2 ++ [32]) := ⟨_, rfl⟩
                        replace H : (colophonref20_Show.l0 k2 (((t122 ++ (⟨#[32, 32]⟩ : ByteArray)) ++ t126) ++ (⟨#[10, 32, 32]⟩ : ByteArray)) t127 y128 (wrap64 (x14_2 + 1))) = some r := by first | (rw [hy128]; with_reducible exact H) | (have H2_ := (Option.bind_some _ _).symm.trans H; rw [hy128]; with_reducible exact H2_) | (have H2_ := (Option.bind_some _ _).symm.trans H; with_reducible exact H2_) | with_reducible exact H | (rw [hy128]; exact H) | exact H
                        have Ny128 := Aside0.mk hy128
                        clear hy128
                        have H' := Aside0.mk H
                        clear H
                        go_wp2_with (first | ((with_reducible refine gate_builtin (b := .append) (xs := #[.tmp 63, .tmp 64]) rfl ?_); at_builtin; refine Kd.R_append (Kd.int .u8) (w0 := w) w.heap.size rfl (.tmp 63) (.tmp 64) 79 5 (.int .u8 0) 1 rfl Tryd.underlying79 info5 rfl (by decide) (by omega) u13 x13_2 32 [.int .u8 32] (fun _ => True) (fun _ => False) rfl rfl ?aP (fun _ hk => hk.elim) ?aF ?aO ?aB ?aS ?aL ?_; (case aP => exact rfl); (case aB => exact (by repeat (first | (with_reducible first | exact HB.out | apply below_alloc | apply pw_below_drewN | apply below_drew1 | refine below_set ?_ GE121.out) | exact HB.out))); (case aF => exact (fun _ _ => trivial)); (case aO => exact (by (with_reducible repeat (first | apply Kd.R_alloc | apply Kd.R_drewN | apply Kd.R_drew)); exact HO_13.out)); (case aS => exact (below_size (by repeat (first | (with_reducible first | exact HB.out | apply below_alloc | apply pw_below_drewN | apply below_drew1 | refine below_set ?_ GE121.out) | exact HB.out)))); (case aL => have := LMc27.out; omega); intro v129 w28 ho hb hg hat; rw [← Ny128.out] at ho; have n0_ := Aside0.mk (blk_grown (g := gb121) (o := .cells #[.int .i64 a2_0, .int .i64 a2_1, .int .i64 a2_2, .int .i64 a2_3] 52 (0, 0)) (by (with_reducible repeat (first | refine blk_drewN ?_ _ | refine blk_drew ?_ | refine blk_alloc ?_ _)); exact BK121.out) hg (Kd.R_ne HO_13.out BK121.out (by decide))); have n1_ := Aside0.mk (hb); have n2_ := Aside0.mk (ho); clear BK121; clear HB; clear HO_13; have BK121 := n0_; have HB := n1_; have HO130 := n2_; clear n0_ n1_ n2_; clear ho hb hg hat))
                        go_roundg k2
                        case measure => have := HJ5.out; have := HK2.out; omega
                        case rel => exact ⟨(y128), (wrap64 (x14_2 + 1)), (by first | rfl | (simp; done) | (simp [*]; done)), H', ⟨by have := HJ5.out; have := HK2.out; omega⟩, ⟨by (with_reducible repeat (first | apply Kd.R_alloc | apply Kd.R_drewN | apply Kd.R_drew)); exact HO130.out⟩, ⟨by (with_reducible repeat (first | refine blk_drewN ?_ _ | refine blk_drew ?_ | refine blk_alloc ?_ _)); exact BK121.out⟩, ⟨by repeat (first | (with_reducible first | exact HB.out | apply below_alloc | apply pw_below_drewN | apply below_drew1 | refine below_set ?_ GE121.out) | exact HB.out)⟩⟩
                      · rw [if_neg c27] at H
                        exact absurd H (by simp)
                    · rw [if_neg c26] at H
                      have c26b0 : decide (x14_2 < t127) = false := decide_eq_false c26
                      clear c26
                      by_cases c29 : (((t122 ++ (⟨#[32, 32]⟩ : ByteArray)) ++ t126) ++ (⟨#[10, 32, 32]⟩ : ByteArray)).size + (strOfNums x13_2).size ≤ 9223372036854775807
                      · rw [if_pos c29] at H
                        have c29b0 := eq_true c29
                        have c29b1 : decide ((((t122 ++ (⟨#[32, 32]⟩ : ByteArray)) ++ t126) ++ (⟨#[10, 32, 32]⟩ : ByteArray)).size + (strOfNums x13_2).size ≤ 9223372036854775807) = true := decide_eq_true c29
                        try have c29b2 : (9223372036854775807 < (((t122 ++ (⟨#[32, 32]⟩ : ByteArray)) ++ t126) ++ (⟨#[10, 32, 32]⟩ : ByteArray)).size + (strOfNums x13_2).size) = False := eq_false (Nat.not_lt.2 c29)
                        have c29b3 : (9223372036854775807 < t122.size + 2 + t126.size + 3 + (strOfNums x13_2).size) = False := eq_false (by have h_ := c29; simp only [ByteArray.size_append] at h_; exact Nat.not_lt.2 h_)
                        by_cases c30 : ((((t122 ++ (⟨#[32, 32]⟩ : ByteArray)) ++ t126) ++ (⟨#[10, 32, 32]⟩ : ByteArray)) ++ (strOfNums x13_2)).size + 2 ≤ 9223372036854775807
                        · rw [if_pos c30] at H
                          have c30b0 := eq_true c30
                          have c30b1 : decide (((((t122 ++ (⟨#[32, 32]⟩ : ByteArray)) ++ t126) ++ (⟨#[10, 32, 32]⟩ : ByteArray)) ++ (strOfNums x13_2)).size + 2 ≤ 9223372036854775807) = true := decide_eq_true c30
                          try have c30b2 : (9223372036854775807 < ((((t122 ++ (⟨#[32, 32]⟩ : ByteArray)) ++ t126) ++ (⟨#[10, 32, 32]⟩ : ByteArray)) ++ (strOfNums x13_2)).size + 2) = False := eq_false (Nat.not_lt.2 c30)
                          have c30b3 : (9223372036854775807 < t122.size + 2 + t126.size + 3 + (strOfNums x13_2).size + 2) = False := eq_false (by have h_ := c30; simp only [ByteArray.size_append] at h_; exact Nat.not_lt.2 h_)
                          obtain rfl := Option.some.inj H
                          have hcv31 := own_string (P := Tryd.prog) Tryd.underlying79 Tryd.underlying5 Tryd.underlying9 (Kd.own_of_R HO_13.out)
                          go_wp2
                          go_ret
                          exact ⟨by first | rfl | (simp [errW_none, errW_some] <;> rfl) | (simp [*, errW_none, errW_some] <;> rfl), by repeat (first | (with_reducible first | exact HB.out | apply below_alloc | apply pw_below_drewN | apply below_drew1 | refine below_set ?_ GE121.out) | exact HB.out)⟩
                        · rw [if_neg c30] at H
                          exact absurd H (by simp)
                      · rw [if_neg c29] at H
                        exact absurd H (by simp)
              · rw [if_neg c22] at H
                exact absurd H (by simp)
            · rw [if_neg c21] at H
              exact absurd H (by simp)
          · rw [if_neg c20] at H
            exact absurd H (by simp)

end Go.Proofs.YtdphhmigbbgjmaaDoor.PRep
