/- Printed by a program of this session (wip/xprint.py) over the kit's print, with contracts of this session's own: scan, its reference, its laws. -/
import Derived.Test.YtdphhmigbbgjmaaGreatDoorPScan0
import Derived.Test.YtdphhmigbbgjmaaGreatDoorPScan2
namespace Go.Proofs.YtdphhmigbbgjmaaGreatDoor.PScan
open Go.RowKit Go.Proofs.YtdphhmigbbgjmaaGreatDoorW.PrintWords Go.Proofs.YtdphhmigbbgjmaaGreatDoorW.PrintLast Go.Proofs.YtdphhmigbbgjmaaGreatDoorW.PrintMore
attribute [local go_sem] max2_int min2_int max_two min_two max_three min_three max_four min_four   -- for this text's walks alone
set_option linter.unusedVariables false
set_option linter.unusedSimpArgs false
attribute [local go_sem ↓] cutS_in

/-! ### scan_All: function 22 -/
def scan_All.l0 : Nat → ByteArray → List (S48) → Int → Int → Int → Int → Option ((List (S48)) × Int × Int × Int × Int)
  | 0, _, _, _, _, _, _ => none
  | k + 1, x0, x5, x7, x137000, x137001, x137002 => if 0 ≤ x7 then (if x7 ≤ (x0.size : Int) then ((strings_TrimLeft.f (cutS x0 (x7 : Int).toNat x0.size) (⟨#[32, 9, 13, 10]⟩ : ByteArray)).bind fun t137 => (if x7 ≤ (wrap64 (x7 + (wrap64 (((cutS x0 (x7 : Int).toNat x0.size).size : Int) - (t137.size : Int))))) then (if (wrap64 (x7 + (wrap64 (((cutS x0 (x7 : Int).toNat x0.size).size : Int) - (t137.size : Int))))) ≤ (x0.size : Int) then ((strings_Count.f (cutS x0 (x7 : Int).toNat ((wrap64 (x7 + (wrap64 (((cutS x0 (x7 : Int).toNat x0.size).size : Int) - (t137.size : Int))))) : Int).toNat) (⟨#[10]⟩ : ByteArray)).bind fun t138 => ((place_Advance.f x137000 x137001 x137002 (cutS x0 (x7 : Int).toNat ((wrap64 (x7 + (wrap64 (((cutS x0 (x7 : Int).toNat x0.size).size : Int) - (t137.size : Int))))) : Int).toNat)).bind fun bt139 => (if (wrap64 (x7 + (wrap64 (((cutS x0 (x7 : Int).toNat x0.size).size : Int) - (t137.size : Int))))) = (x0.size : Int) then (some (x5, 0, 0, 0, 0)) else ((scan_one.f k x0 (wrap64 (x7 + (wrap64 (((cutS x0 (x7 : Int).toNat x0.size).size : Int) - (t137.size : Int)))))).bind fun bt142 => (if bt142.2.2 = 0 then (if 0 ≤ (wrap64 (x7 + (wrap64 (((cutS x0 (x7 : Int).toNat x0.size).size : Int) - (t137.size : Int))))) then (if (wrap64 (x7 + (wrap64 (((cutS x0 (x7 : Int).toNat x0.size).size : Int) - (t137.size : Int))))) ≤ bt142.2.1 then (if bt142.2.1 ≤ (x0.size : Int) then (if bt142.1 = 7 then ((strings_TrimRight.f (cutS x0 ((wrap64 (x7 + (wrap64 (((cutS x0 (x7 : Int).toNat x0.size).size : Int) - (t137.size : Int))))) : Int).toNat (bt142.2.1 : Int).toNat) (⟨#[32, 9, 13]⟩ : ByteArray)).bind fun t148 => (if x5.length < 2513169434916 then ((place_Advance.f bt139.1 bt139.2.1 bt139.2.2 (cutS x0 ((wrap64 (x7 + (wrap64 (((cutS x0 (x7 : Int).toNat x0.size).size : Int) - (t137.size : Int))))) : Int).toNat (bt142.2.1 : Int).toNat)).bind fun bt152 => (scan_All.l0 k x0 (x5 ++ [(⟨bt142.1, t148, (⟨bt139.1, bt139.2.1, bt139.2.2⟩ : S26), t138⟩ : S48)]) bt142.2.1 bt152.1 bt152.2.1 bt152.2.2)) else (none))) else (if x5.length < 2513169434916 then ((place_Advance.f bt139.1 bt139.2.1 bt139.2.2 (cutS x0 ((wrap64 (x7 + (wrap64 (((cutS x0 (x7 : Int).toNat x0.size).size : Int) - (t137.size : Int))))) : Int).toNat (bt142.2.1 : Int).toNat)).bind fun bt158 => (scan_All.l0 k x0 (x5 ++ [(⟨bt142.1, cutS x0 ((wrap64 (x7 + (wrap64 (((cutS x0 (x7 : Int).toNat x0.size).size : Int) - (t137.size : Int))))) : Int).toNat (bt142.2.1 : Int).toNat, (⟨bt139.1, bt139.2.1, bt139.2.2⟩ : S26), t138⟩ : S48)]) bt142.2.1 bt158.1 bt158.2.1 bt158.2.2)) else (none))) else (none)) else (none)) else (none)) else (if 0 ≤ (wrap64 (x7 + (wrap64 (((cutS x0 (x7 : Int).toNat x0.size).size : Int) - (t137.size : Int))))) then (if (wrap64 (x7 + (wrap64 (((cutS x0 (x7 : Int).toNat x0.size).size : Int) - (t137.size : Int))))) ≤ bt142.2.1 then (if bt142.2.1 ≤ (x0.size : Int) then ((place_Advance.f bt139.1 bt139.2.1 bt139.2.2 (cutS x0 ((wrap64 (x7 + (wrap64 (((cutS x0 (x7 : Int).toNat x0.size).size : Int) - (t137.size : Int))))) : Int).toNat (bt142.2.1 : Int).toNat)).bind fun bt145 => (some (x5, bt142.2.2, bt145.1, bt145.2.1, bt145.2.2))) else (none)) else (none)) else (none))))))) else (none)) else (none))) else (none)) else (none)
def scan_All.f (k : Nat) (a0 : ByteArray) : Option ((List (S48)) × Int × Int × Int × Int) := (place_Start.f).bind fun bt133 => (scan_All.l0 k a0 ([] : List (S48)) 0 bt133.1 bt133.2.1 bt133.2.2)
theorem scan_All.mono_l : ∀ k, (∀ y0 y1 y2 y3 y4 y5, LeO (scan_All.l0 k y0 y1 y2 y3 y4 y5) (scan_All.l0 (k + 1) y0 y1 y2 y3 y4 y5))
  | 0 => fun _ _ _ _ _ _ r h => by simp [scan_All.l0] at h
  | k + 1 => by
    have ih0 := scan_All.mono_l k
    · intro y0 y1 y2 y3 y4 y5
      unfold scan_All.l0
      repeat' first
      | (with_reducible exact ih0 _ _ _ _ _ _)
      | (with_reducible exact scan_one.mono _ _ _)
      | (with_reducible exact LeO.refl _)
      | (with_reducible exact LeO.none _)
      | (with_reducible refine LeO.ite ?_ ?_)
      | (with_reducible refine LeO.bind ?_ (fun _ => ?_))
      | exact ih0 _ _ _ _ _ _
      | exact scan_one.mono _ _ _
      | exact LeO.none _
      | refine LeO.ite ?_ ?_
      | refine LeO.bind ?_ (fun _ => ?_)
theorem scan_All.mono : ∀ a0 k, LeO (scan_All.f k a0) (scan_All.f (k + 1) a0) := by
  intro a0 k
  have ih0 := scan_All.mono_l k
  unfold scan_All.f
  repeat' first
      | (with_reducible exact ih0 _ _ _ _ _ _)
      | (with_reducible exact scan_one.mono _ _ _)
      | (with_reducible exact LeO.refl _)
      | (with_reducible exact LeO.none _)
      | (with_reducible refine LeO.ite ?_ ?_)
      | (with_reducible refine LeO.bind ?_ (fun _ => ?_))
      | exact ih0 _ _ _ _ _ _
      | exact scan_one.mono _ _ _
      | exact LeO.none _
      | refine LeO.ite ?_ ?_
      | refine LeO.bind ?_ (fun _ => ?_)
def scan_All.T3 : Bool × List (List Nat × List Nat) := (true, [([], []), ([], []), ([0, 1], [0, 1]), ([2], [2]), ([], []), ([], []), ([4, 5], [4, 5]), ([6], [6]), ([7], [7]), ([3, 8], [3, 8]), ([9, 7, 0, 1, 2, 3, 4, 5, 6, 7, 8, 9], [9])])
def scan_All.B3 : List Nat := [0, 0, 3, 7, 0, 0, 48, 112, 240, 511, 1023]
theorem scan_All.tab3 : rtab .any (opsOf Tryz.f22 3) = scan_All.T3 := by kernel_rfl
theorem scan_All.bits3 : waitsOk scan_All.T3.2 scan_All.B3 = true := by kernel_rfl
def scan_All.T5 : Bool × List (List Nat × List Nat) := (true, [([], []), ([], []), ([], []), ([], []), ([], []), ([3, 4], [3, 4]), ([1, 2, 5], [1, 2, 5]), ([0, 6], [0, 6]), ([], []), ([], []), ([8, 9], [8, 9]), ([7, 7, 0, 1, 2, 3, 4, 5, 6, 7], [7]), ([10, 11, 0, 1, 2, 3, 4, 5, 6, 7, 8, 9, 10, 11], [2, 3, 8, 10])])
def scan_All.B5 : List Nat := [0, 0, 0, 0, 0, 24, 62, 127, 0, 0, 768, 255, 4095]
theorem scan_All.tab5 : rtab .any (opsOf Tryz.f22 5) = scan_All.T5 := by kernel_rfl
theorem scan_All.bits5 : waitsOk scan_All.T5.2 scan_All.B5 = true := by kernel_rfl
def scan_All.T10 : Bool × List (List Nat × List Nat) := (true, [([], []), ([], []), ([], []), ([], []), ([], []), ([], []), ([3, 4, 5], [3, 4, 5]), ([2, 6], [2, 6]), ([0, 7, 0], [0]), ([1, 8, 0, 1, 8], [1]), ([7, 9, 0, 1, 2, 3, 4, 5, 6, 7, 8, 9], [7])])
def scan_All.B10 : List Nat := [0, 0, 0, 0, 0, 0, 56, 124, 253, 511, 1023]
theorem scan_All.tab10 : rtab .any (opsOf Tryz.f22 10) = scan_All.T10 := by kernel_rfl
theorem scan_All.bits10 : waitsOk scan_All.T10.2 scan_All.B10 = true := by kernel_rfl
def scan_All.T15 : Bool × List (List Nat × List Nat) := (true, [([], []), ([], []), ([], []), ([], []), ([1, 2, 3], [1, 2, 3]), ([0, 4], [0, 4]), ([], []), ([5, 5, 0, 1, 2, 3, 4, 5], [5]), ([6, 7, 0, 1, 2, 3, 4, 5, 6, 7], [2, 6])])
def scan_All.B15 : List Nat := [0, 0, 0, 0, 14, 31, 0, 63, 255]
theorem scan_All.tab15 : rtab .any (opsOf Tryz.f22 15) = scan_All.T15 := by kernel_rfl
theorem scan_All.bits15 : waitsOk scan_All.T15.2 scan_All.B15 = true := by kernel_rfl
set_option maxHeartbeats 8000000 in
set_option maxRecDepth 100000 in
theorem scan_All.calls (k : Nat) (a0 : ByteArray) (r1 : List (S48)) (r2 : Int) (r3 : Int) (r4 : Int) (r5 : Int) (w : World) (h : scan_All.f k a0 = some (r1, r2, r3, r4, r5)) (hT : Clas w) :
    Calls Tryz.prog 22 #[.string a0] w fun e w' => ∃ v0_ : Value, e = .returned (.tuple #[v0_, .int .i64 r2, .agg #[.int .i64 r3, .int .i64 r4, .int .i64 r5]]) ∧ Kd.R k48 48 w' w.heap.size (fun _ => True) v0_ r1 ∧ Below w.heap.size w w' := by
  have hu26 := Tryz.underlying26
  have hu48 := Tryz.underlying48
  have HB := Aside0.mk (Below.refl w.heap.size w)
  have H : ((place_Start.f).bind fun bt133 => (scan_All.l0 k a0 ([] : List (S48)) 0 bt133.1 bt133.2.1 bt133.2.2)) = some (r1, r2, r3, r4, r5) := h
  clear h
  replace H := Option.bind_eq_some_iff.mp H
  obtain ⟨⟨t133, t134, t135⟩, A20, H⟩ := H
  replace H : (scan_All.l0 k a0 ([] : List (S48)) 0 t133 t134 t135) = some (r1, r2, r3, r4, r5) := H
  have A2 := Aside0.mk A20
  clear A20
  have H' := Aside0.mk H
  clear H
  go_enter Tryz.func22, Tryz.ntmps22
  go_wp2_with (first | ((with_reducible refine gate_dst (N := 4) rfl ?_); refine box_event ?hg (N := 4) ?hd (cs := #[.int .i64 0, .int .i64 0, .int .i64 0]) (t := 26) ?hr ?_; (case hd => rfl); (case hg => rfl); (case hr => first | (go_simp; done) | (go_simp; rfl)); intro gb132 hg w3 hbox hb; have n0_ := Aside0.mk (below_step (by repeat (first | (with_reducible first | exact HB.out | apply below_alloc | apply pw_below_drewN | apply below_drew1) | exact HB.out)) hb); have n1_ := Aside0.mk (hbox); have n2_ := Aside0.mk ((by rw [hg]; exact (below_size (by repeat (first | (with_reducible first | exact HB.out | apply below_alloc | apply pw_below_drewN | apply below_drew1) | exact HB.out))) : w.heap.size ≤ gb132)); have n3_ := Aside0.mk ((by rw [hg]; exact (below_size (by repeat (first | (with_reducible first | exact HB.out | apply below_alloc | apply pw_below_drewN | apply below_drew1) | exact HB.out))) : w.heap.size ≤ gb132)); clear HB; have HB := n0_; have BK132 := n1_; have GW132 := n2_; have GE132 := n3_; clear n0_ n1_ n2_ n3_; clear hb hbox hg) | ((with_reducible refine gate_callee (f := 36) rfl ?_); refine goesL_ (some 14) rfl rfl Tryz.func36 (by kernel_rfl) rfl #[] rfl (by (try simp only [List.map_toArray, List.map_cons, List.map_nil]); first | done | rfl | (simp only [List.length_drop, List.length_take]; rfl)) ?_; (with_reducible refine (place_Start.calls  t133 t134 t135 _ A2.out).mono ?_); rintro e w4 ⟨rfl, hb⟩; refine ⟨_, rfl, ?_⟩; have n0_ := Aside0.mk (blk_below (g := gb132) (o := .cells #[.int .i64 0, .int .i64 0, .int .i64 0] 26 (0, 0)) (by (with_reducible repeat (first | refine blk_drewN ?_ _ | refine blk_drew ?_ | refine blk_alloc ?_ _)); exact BK132.out) hb); have n1_ := Aside0.mk (below_step (by repeat (first | (with_reducible first | exact HB.out | apply below_alloc | apply pw_below_drewN | apply below_drew1 | refine below_set ?_ GE132.out) | exact HB.out)) hb); clear BK132; clear HB; have BK132 := n0_; have HB := n1_; clear n0_ n1_; (try clear hb); (try clear hb2); (try clear hk); (try clear hi)) | ((with_reducible refine gate_dst (N := 6) rfl ?_); refine box_event ?hg (N := 6) ?hd (cs := #[.int .i64 0, .int .i64 0, .int .i64 0]) (t := 26) ?hr ?_; (case hd => rfl); (case hg => rfl); (case hr => first | (go_simp; done) | (go_simp; rfl)); intro gb136 hg w5 hbox hb; have n0_ := Aside0.mk (blk_below (g := gb132) (o := .cells #[.int .i64 0, .int .i64 0, .int .i64 0] 26 (0, 0)) (by (with_reducible repeat (first | refine blk_drewN ?_ _ | refine blk_drew ?_ | refine blk_alloc ?_ _)); exact BK132.out) hb); have n1_ := Aside0.mk (below_step (by repeat (first | (with_reducible first | exact HB.out | apply below_alloc | apply pw_below_drewN | apply below_drew1 | refine below_set ?_ GE132.out) | exact HB.out)) hb); have n2_ := Aside0.mk (hbox); have n3_ := Aside0.mk ((by rw [hg]; exact (below_size (by repeat (first | (with_reducible first | exact HB.out | apply below_alloc | apply pw_below_drewN | apply below_drew1 | refine below_set ?_ GE132.out) | exact HB.out))) : w.heap.size ≤ gb136)); have n4_ := Aside0.mk ((by rw [hg]; exact (below_size (by repeat (first | (with_reducible first | exact HB.out | apply below_alloc | apply pw_below_drewN | apply below_drew1 | refine below_set ?_ GE132.out) | exact HB.out))) : w.heap.size ≤ gb136)); have n5_ := Aside0.mk ((by rw [hg]; exact Nat.ne_of_lt (blk_lt (g := gb132) (o := .cells #[.int .i64 0, .int .i64 0, .int .i64 0] 26 (0, 0)) (by (with_reducible repeat (first | refine blk_drewN ?_ _ | refine blk_drew ?_ | refine blk_alloc ?_ _)); exact BK132.out)) : gb132 ≠ gb136)); have n6_ := Aside0.mk ((by rw [hg]; exact Nat.ne_of_gt (blk_lt (g := gb132) (o := .cells #[.int .i64 0, .int .i64 0, .int .i64 0] 26 (0, 0)) (by (with_reducible repeat (first | refine blk_drewN ?_ _ | refine blk_drew ?_ | refine blk_alloc ?_ _)); exact BK132.out)) : gb136 ≠ gb132)); clear BK132; clear HB; have BK132 := n0_; have HB := n1_; have BK136 := n2_; have GW136 := n3_; have GE136 := n4_; have NB132_136 := n5_; have NB136_132 := n6_; clear n0_ n1_ n2_ n3_ n4_ n5_ n6_; clear hb hbox hg; have hnb6 := NB136_132.out; have hnc6 := NB132_136.out; have hcz7_0 : w5.cell? ⟨gb136, 0, none⟩ = some (.int .i64 0) := (blk_cell BK136.out 0).trans rfl; have hcz7_1 : w5.cell? ⟨gb136, 1, none⟩ = some (.int .i64 0) := (blk_cell BK136.out 1).trans rfl; have hcz7_2 : w5.cell? ⟨gb136, 2, none⟩ = some (.int .i64 0) := (blk_cell BK136.out 2).trans rfl; have hfz7_0 := blk_frozen BK136.out 0; have hfz7_1 := blk_frozen BK136.out 1; have hfz7_2 := blk_frozen BK136.out 2))
  go_loopg [5, 7] k (fun kq v5 v7 w' => ∃ (x5_1 : List (S48)) (x7_1 : Int) (x133000_1 : Int) (x133001_1 : Int) (x133002_1 : Int) (x137000_1 : Int) (x137001_1 : Int) (x137002_1 : Int), v7 = .int .i64 x7_1 ∧ Aside0 (scan_All.l0 kq a0 x5_1 x7_1 x137000_1 x137001_1 x137002_1 = some (r1, r2, r3, r4, r5)) ∧ Aside0 (kq ≤ k) ∧ Aside0 (Kd.R k48 48 w' w.heap.size (fun _ => True) v5 x5_1) ∧ Aside0 (w'.heap[gb132]? = some (.cells #[.int .i64 x133000_1, .int .i64 x133001_1, .int .i64 x133002_1] 26 (0, 0))) ∧ Aside0 (w'.heap[gb136]? = some (.cells #[.int .i64 x137000_1, .int .i64 x137001_1, .int .i64 x137002_1] 26 (0, 0))) ∧ Aside0 (Below w.heap.size w w'))
  case atStart => exact ⟨(([] : List (S48))), (0), (0), (0), (0), (t133), (t134), (t135), (by first | rfl | (simp; done) | (simp [*]; done)), H', ⟨Nat.le_refl _⟩, ⟨by first | exact Kd.R_nil _ _ _ _ _ | exact Kd.N_nil _ _ _ _ _ | exact Kd.V_nil _ _ _ _ _ | exact Kd.Q_nil _ _ _ _ _ | exact Kd.S_nil _ _ _ _ _⟩, ⟨by (with_reducible repeat (first | refine blk_drewN ?_ _ | refine blk_drew ?_ | refine blk_alloc ?_ _)); refine blk_far ?_ NB132_136.out _; (with_reducible repeat (first | refine blk_drewN ?_ _ | refine blk_drew ?_ | refine blk_alloc ?_ _)); refine blk_far ?_ NB132_136.out _; (with_reducible repeat (first | refine blk_drewN ?_ _ | refine blk_drew ?_ | refine blk_alloc ?_ _)); refine blk_far ?_ NB132_136.out _; (with_reducible repeat (first | refine blk_drewN ?_ _ | refine blk_drew ?_ | refine blk_alloc ?_ _)); exact BK132.out⟩, ⟨by (with_reducible repeat (first | refine blk_drewN ?_ _ | refine blk_drew ?_ | refine blk_alloc ?_ _)); refine blk_put (cs := #[.int .i64 t133, .int .i64 t134, .int .i64 0]) ?_ 2 _ rfl; (with_reducible repeat (first | refine blk_drewN ?_ _ | refine blk_drew ?_ | refine blk_alloc ?_ _)); refine blk_put (cs := #[.int .i64 t133, .int .i64 0, .int .i64 0]) ?_ 1 _ rfl; (with_reducible repeat (first | refine blk_drewN ?_ _ | refine blk_drew ?_ | refine blk_alloc ?_ _)); refine blk_put (cs := #[.int .i64 0, .int .i64 0, .int .i64 0]) ?_ 0 _ rfl; (with_reducible repeat (first | refine blk_drewN ?_ _ | refine blk_drew ?_ | refine blk_alloc ?_ _)); exact BK136.out⟩, ⟨by repeat (first | (with_reducible first | exact HB.out | apply below_alloc | apply pw_below_drewN | apply below_drew1 | refine below_set ?_ GE132.out | refine below_set ?_ GE136.out) | exact HB.out)⟩⟩
  case round =>
    clear H'
    try clear c2
    try clear p2
    try clear c3
    try clear c6
    try clear hcz7_0
    try clear hcz7_1
    try clear hcz7_2
    try clear hfz7_0
    try clear hfz7_1
    try clear hfz7_2
    obtain ⟨x5_1, x7_1, x133000_1, x133001_1, x133002_1, x137000_1, x137001_1, x137002_1, rfl, HA, HK1, HO_5, BK132, BK136, HB⟩ := hrel
    cases gk with
    | zero => exact absurd HA.out (by simp [scan_All.l0])
    | succ k1 =>
      have H := HA.out
      clear HA
      simp only [scan_All.l0] at H
      by_cases c8 : 0 ≤ x7_1
      · rw [if_pos c8] at H
        have c8b0 := eq_true c8
        have c8b1 : decide (0 ≤ x7_1) = true := decide_eq_true c8
        clear c8
        by_cases c9 : x7_1 ≤ (a0.size : Int)
        · rw [if_pos c9] at H
          have c9b0 := eq_true c9
          have c9b1 : decide (x7_1 ≤ (a0.size : Int)) = true := decide_eq_true c9
          clear c9
          have c10b0 := eq_true (of_decide_eq_true (by first | (with_reducible assumption) | assumption) : 0 ≤ x7_1)
          have c11b0 := eq_true (of_decide_eq_true (by first | (with_reducible assumption) | assumption) : x7_1 ≤ (a0.size : Int))
          replace H := Option.bind_eq_some_iff.mp H
          obtain ⟨t137, A120, H⟩ := H
          replace H : (if x7_1 ≤ (wrap64 (x7_1 + (wrap64 (((cutS a0 (x7_1 : Int).toNat a0.size).size : Int) - (t137.size : Int))))) then (if (wrap64 (x7_1 + (wrap64 (((cutS a0 (x7_1 : Int).toNat a0.size).size : Int) - (t137.size : Int))))) ≤ (a0.size : Int) then ((strings_Count.f (cutS a0 (x7_1 : Int).toNat ((wrap64 (x7_1 + (wrap64 (((cutS a0 (x7_1 : Int).toNat a0.size).size : Int) - (t137.size : Int))))) : Int).toNat) (⟨#[10]⟩ : ByteArray)).bind fun t138 => ((place_Advance.f x137000_1 x137001_1 x137002_1 (cutS a0 (x7_1 : Int).toNat ((wrap64 (x7_1 + (wrap64 (((cutS a0 (x7_1 : Int).toNat a0.size).size : Int) - (t137.size : Int))))) : Int).toNat)).bind fun bt139 => (if (wrap64 (x7_1 + (wrap64 (((cutS a0 (x7_1 : Int).toNat a0.size).size : Int) - (t137.size : Int))))) = (a0.size : Int) then (some (x5_1, 0, 0, 0, 0)) else ((scan_one.f k1 a0 (wrap64 (x7_1 + (wrap64 (((cutS a0 (x7_1 : Int).toNat a0.size).size : Int) - (t137.size : Int)))))).bind fun bt142 => (if bt142.2.2 = 0 then (if 0 ≤ (wrap64 (x7_1 + (wrap64 (((cutS a0 (x7_1 : Int).toNat a0.size).size : Int) - (t137.size : Int))))) then (if (wrap64 (x7_1 + (wrap64 (((cutS a0 (x7_1 : Int).toNat a0.size).size : Int) - (t137.size : Int))))) ≤ bt142.2.1 then (if bt142.2.1 ≤ (a0.size : Int) then (if bt142.1 = 7 then ((strings_TrimRight.f (cutS a0 ((wrap64 (x7_1 + (wrap64 (((cutS a0 (x7_1 : Int).toNat a0.size).size : Int) - (t137.size : Int))))) : Int).toNat (bt142.2.1 : Int).toNat) (⟨#[32, 9, 13]⟩ : ByteArray)).bind fun t148 => (if x5_1.length < 2513169434916 then ((place_Advance.f bt139.1 bt139.2.1 bt139.2.2 (cutS a0 ((wrap64 (x7_1 + (wrap64 (((cutS a0 (x7_1 : Int).toNat a0.size).size : Int) - (t137.size : Int))))) : Int).toNat (bt142.2.1 : Int).toNat)).bind fun bt152 => (scan_All.l0 k1 a0 (x5_1 ++ [(⟨bt142.1, t148, (⟨bt139.1, bt139.2.1, bt139.2.2⟩ : S26), t138⟩ : S48)]) bt142.2.1 bt152.1 bt152.2.1 bt152.2.2)) else (none))) else (if x5_1.length < 2513169434916 then ((place_Advance.f bt139.1 bt139.2.1 bt139.2.2 (cutS a0 ((wrap64 (x7_1 + (wrap64 (((cutS a0 (x7_1 : Int).toNat a0.size).size : Int) - (t137.size : Int))))) : Int).toNat (bt142.2.1 : Int).toNat)).bind fun bt158 => (scan_All.l0 k1 a0 (x5_1 ++ [(⟨bt142.1, cutS a0 ((wrap64 (x7_1 + (wrap64 (((cutS a0 (x7_1 : Int).toNat a0.size).size : Int) - (t137.size : Int))))) : Int).toNat (bt142.2.1 : Int).toNat, (⟨bt139.1, bt139.2.1, bt139.2.2⟩ : S26), t138⟩ : S48)]) bt142.2.1 bt158.1 bt158.2.1 bt158.2.2)) else (none))) else (none)) else (none)) else (none)) else (if 0 ≤ (wrap64 (x7_1 + (wrap64 (((cutS a0 (x7_1 : Int).toNat a0.size).size : Int) - (t137.size : Int))))) then (if (wrap64 (x7_1 + (wrap64 (((cutS a0 (x7_1 : Int).toNat a0.size).size : Int) - (t137.size : Int))))) ≤ bt142.2.1 then (if bt142.2.1 ≤ (a0.size : Int) then ((place_Advance.f bt139.1 bt139.2.1 bt139.2.2 (cutS a0 ((wrap64 (x7_1 + (wrap64 (((cutS a0 (x7_1 : Int).toNat a0.size).size : Int) - (t137.size : Int))))) : Int).toNat (bt142.2.1 : Int).toNat)).bind fun bt145 => (some (x5_1, bt142.2.2, bt145.1, bt145.2.1, bt145.2.2))) else (none)) else (none)) else (none))))))) else (none)) else (none)) = some (r1, r2, r3, r4, r5) := H
          have A12 := Aside0.mk A120
          clear A120
          have c13b0 := eq_true (of_decide_eq_true (by first | (with_reducible assumption) | assumption) : 0 ≤ x7_1)
          by_cases c14 : x7_1 ≤ (wrap64 (x7_1 + (wrap64 (((cutS a0 (x7_1 : Int).toNat a0.size).size : Int) - (t137.size : Int)))))
          · rw [if_pos c14] at H
            have c14b0 := eq_true c14
            have c14b1 : decide (x7_1 ≤ (wrap64 (x7_1 + (wrap64 (((cutS a0 (x7_1 : Int).toNat a0.size).size : Int) - (t137.size : Int)))))) = true := decide_eq_true c14
            by_cases c15 : (wrap64 (x7_1 + (wrap64 (((cutS a0 (x7_1 : Int).toNat a0.size).size : Int) - (t137.size : Int))))) ≤ (a0.size : Int)
            · rw [if_pos c15] at H
              have c15b0 := eq_true c15
              have c15b1 : decide ((wrap64 (x7_1 + (wrap64 (((cutS a0 (x7_1 : Int).toNat a0.size).size : Int) - (t137.size : Int))))) ≤ (a0.size : Int)) = true := decide_eq_true c15
              replace H := Option.bind_eq_some_iff.mp H
              obtain ⟨t138, A160, H⟩ := H
              replace H : ((place_Advance.f x137000_1 x137001_1 x137002_1 (cutS a0 (x7_1 : Int).toNat ((wrap64 (x7_1 + (wrap64 (((cutS a0 (x7_1 : Int).toNat a0.size).size : Int) - (t137.size : Int))))) : Int).toNat)).bind fun bt139 => (if (wrap64 (x7_1 + (wrap64 (((cutS a0 (x7_1 : Int).toNat a0.size).size : Int) - (t137.size : Int))))) = (a0.size : Int) then (some (x5_1, 0, 0, 0, 0)) else ((scan_one.f k1 a0 (wrap64 (x7_1 + (wrap64 (((cutS a0 (x7_1 : Int).toNat a0.size).size : Int) - (t137.size : Int)))))).bind fun bt142 => (if bt142.2.2 = 0 then (if 0 ≤ (wrap64 (x7_1 + (wrap64 (((cutS a0 (x7_1 : Int).toNat a0.size).size : Int) - (t137.size : Int))))) then (if (wrap64 (x7_1 + (wrap64 (((cutS a0 (x7_1 : Int).toNat a0.size).size : Int) - (t137.size : Int))))) ≤ bt142.2.1 then (if bt142.2.1 ≤ (a0.size : Int) then (if bt142.1 = 7 then ((strings_TrimRight.f (cutS a0 ((wrap64 (x7_1 + (wrap64 (((cutS a0 (x7_1 : Int).toNat a0.size).size : Int) - (t137.size : Int))))) : Int).toNat (bt142.2.1 : Int).toNat) (⟨#[32, 9, 13]⟩ : ByteArray)).bind fun t148 => (if x5_1.length < 2513169434916 then ((place_Advance.f bt139.1 bt139.2.1 bt139.2.2 (cutS a0 ((wrap64 (x7_1 + (wrap64 (((cutS a0 (x7_1 : Int).toNat a0.size).size : Int) - (t137.size : Int))))) : Int).toNat (bt142.2.1 : Int).toNat)).bind fun bt152 => (scan_All.l0 k1 a0 (x5_1 ++ [(⟨bt142.1, t148, (⟨bt139.1, bt139.2.1, bt139.2.2⟩ : S26), t138⟩ : S48)]) bt142.2.1 bt152.1 bt152.2.1 bt152.2.2)) else (none))) else (if x5_1.length < 2513169434916 then ((place_Advance.f bt139.1 bt139.2.1 bt139.2.2 (cutS a0 ((wrap64 (x7_1 + (wrap64 (((cutS a0 (x7_1 : Int).toNat a0.size).size : Int) - (t137.size : Int))))) : Int).toNat (bt142.2.1 : Int).toNat)).bind fun bt158 => (scan_All.l0 k1 a0 (x5_1 ++ [(⟨bt142.1, cutS a0 ((wrap64 (x7_1 + (wrap64 (((cutS a0 (x7_1 : Int).toNat a0.size).size : Int) - (t137.size : Int))))) : Int).toNat (bt142.2.1 : Int).toNat, (⟨bt139.1, bt139.2.1, bt139.2.2⟩ : S26), t138⟩ : S48)]) bt142.2.1 bt158.1 bt158.2.1 bt158.2.2)) else (none))) else (none)) else (none)) else (none)) else (if 0 ≤ (wrap64 (x7_1 + (wrap64 (((cutS a0 (x7_1 : Int).toNat a0.size).size : Int) - (t137.size : Int))))) then (if (wrap64 (x7_1 + (wrap64 (((cutS a0 (x7_1 : Int).toNat a0.size).size : Int) - (t137.size : Int))))) ≤ bt142.2.1 then (if bt142.2.1 ≤ (a0.size : Int) then ((place_Advance.f bt139.1 bt139.2.1 bt139.2.2 (cutS a0 ((wrap64 (x7_1 + (wrap64 (((cutS a0 (x7_1 : Int).toNat a0.size).size : Int) - (t137.size : Int))))) : Int).toNat (bt142.2.1 : Int).toNat)).bind fun bt145 => (some (x5_1, bt142.2.2, bt145.1, bt145.2.1, bt145.2.2))) else (none)) else (none)) else (none)))))) = some (r1, r2, r3, r4, r5) := H
              have A16 := Aside0.mk A160
              clear A160
              have c17b0 := eq_true (of_decide_eq_true (by first | (with_reducible assumption) | assumption) : 0 ≤ x7_1)
              have c18b0 := eq_true (of_decide_eq_true (by first | (with_reducible assumption) | assumption) : x7_1 ≤ (wrap64 (x7_1 + (wrap64 (((cutS a0 (x7_1 : Int).toNat a0.size).size : Int) - (t137.size : Int))))))
              have c19b0 := eq_true (of_decide_eq_true (by first | (with_reducible assumption) | assumption) : (wrap64 (x7_1 + (wrap64 (((cutS a0 (x7_1 : Int).toNat a0.size).size : Int) - (t137.size : Int))))) ≤ (a0.size : Int))
              replace H := Option.bind_eq_some_iff.mp H
              obtain ⟨⟨t139, t140, t141⟩, A200, H⟩ := H
              replace H : (if (wrap64 (x7_1 + (wrap64 (((cutS a0 (x7_1 : Int).toNat a0.size).size : Int) - (t137.size : Int))))) = (a0.size : Int) then (some (x5_1, 0, 0, 0, 0)) else ((scan_one.f k1 a0 (wrap64 (x7_1 + (wrap64 (((cutS a0 (x7_1 : Int).toNat a0.size).size : Int) - (t137.size : Int)))))).bind fun bt142 => (if bt142.2.2 = 0 then (if 0 ≤ (wrap64 (x7_1 + (wrap64 (((cutS a0 (x7_1 : Int).toNat a0.size).size : Int) - (t137.size : Int))))) then (if (wrap64 (x7_1 + (wrap64 (((cutS a0 (x7_1 : Int).toNat a0.size).size : Int) - (t137.size : Int))))) ≤ bt142.2.1 then (if bt142.2.1 ≤ (a0.size : Int) then (if bt142.1 = 7 then ((strings_TrimRight.f (cutS a0 ((wrap64 (x7_1 + (wrap64 (((cutS a0 (x7_1 : Int).toNat a0.size).size : Int) - (t137.size : Int))))) : Int).toNat (bt142.2.1 : Int).toNat) (⟨#[32, 9, 13]⟩ : ByteArray)).bind fun t148 => (if x5_1.length < 2513169434916 then ((place_Advance.f t139 t140 t141 (cutS a0 ((wrap64 (x7_1 + (wrap64 (((cutS a0 (x7_1 : Int).toNat a0.size).size : Int) - (t137.size : Int))))) : Int).toNat (bt142.2.1 : Int).toNat)).bind fun bt152 => (scan_All.l0 k1 a0 (x5_1 ++ [(⟨bt142.1, t148, (⟨t139, t140, t141⟩ : S26), t138⟩ : S48)]) bt142.2.1 bt152.1 bt152.2.1 bt152.2.2)) else (none))) else (if x5_1.length < 2513169434916 then ((place_Advance.f t139 t140 t141 (cutS a0 ((wrap64 (x7_1 + (wrap64 (((cutS a0 (x7_1 : Int).toNat a0.size).size : Int) - (t137.size : Int))))) : Int).toNat (bt142.2.1 : Int).toNat)).bind fun bt158 => (scan_All.l0 k1 a0 (x5_1 ++ [(⟨bt142.1, cutS a0 ((wrap64 (x7_1 + (wrap64 (((cutS a0 (x7_1 : Int).toNat a0.size).size : Int) - (t137.size : Int))))) : Int).toNat (bt142.2.1 : Int).toNat, (⟨t139, t140, t141⟩ : S26), t138⟩ : S48)]) bt142.2.1 bt158.1 bt158.2.1 bt158.2.2)) else (none))) else (none)) else (none)) else (none)) else (if 0 ≤ (wrap64 (x7_1 + (wrap64 (((cutS a0 (x7_1 : Int).toNat a0.size).size : Int) - (t137.size : Int))))) then (if (wrap64 (x7_1 + (wrap64 (((cutS a0 (x7_1 : Int).toNat a0.size).size : Int) - (t137.size : Int))))) ≤ bt142.2.1 then (if bt142.2.1 ≤ (a0.size : Int) then ((place_Advance.f t139 t140 t141 (cutS a0 ((wrap64 (x7_1 + (wrap64 (((cutS a0 (x7_1 : Int).toNat a0.size).size : Int) - (t137.size : Int))))) : Int).toNat (bt142.2.1 : Int).toNat)).bind fun bt145 => (some (x5_1, bt142.2.2, bt145.1, bt145.2.1, bt145.2.2))) else (none)) else (none)) else (none))))) = some (r1, r2, r3, r4, r5) := H
              have A20 := Aside0.mk A200
              clear A200
              by_cases c21 : (wrap64 (x7_1 + (wrap64 (((cutS a0 (x7_1 : Int).toNat a0.size).size : Int) - (t137.size : Int))))) = (a0.size : Int)
              · rw [if_pos c21] at H
                have c21b0 : ((wrap64 (x7_1 + (wrap64 (((cutS a0 (x7_1 : Int).toNat a0.size).size : Int) - (t137.size : Int))))) == (a0.size : Int)) = true := beq_iff_eq.mpr c21
                have c21b1 : ((wrap64 (x7_1 + (wrap64 (((cutS a0 (x7_1 : Int).toNat a0.size).size : Int) - (t137.size : Int))))) != (a0.size : Int)) = false := bne_eq_false_iff_eq.mpr c21
                clear c21
                simp only [Option.some.injEq, Prod.mk.injEq] at H
                obtain ⟨rfl, rfl, rfl, rfl, rfl⟩ := H
                try go_wp2
                have n0_ := Aside0.mk (Kd.R_drew HO_5.out)
                have n1_ := Aside0.mk (blk_drew BK132.out)
                have n2_ := Aside0.mk (blk_drew BK136.out)
                have n3_ := Aside0.mk (below_drew1 HB.out)
                clear HO_5
                clear BK132
                clear BK136
                clear HB
                have HO_5 := n0_
                have BK132 := n1_
                have BK136 := n2_
                have HB := n3_
                clear n0_ n1_ n2_ n3_
                refine start_ (n := 11) (S := fun w' => True) (ds := []) #[false, false, false, false, false, false, false, false, false, false, false] (by kernel_rfl) rfl rfl trivial (fun hHeld => ?_); refine with_tabW scan_All.tab3 scan_All.bits3 (fun HT_ HW_ => ?_)
                generalize wr.drew = w22 at HO_5 BK132 BK136 HB hHeld ⊢
                refine pure_ (i := 0) (N := some 15) (v := ?_) (a' := ?_) #[true, false, false, false, false, false, false, false, false, false, false] rfl rfl (any_of HT_.out (by kernel_rfl)) (fun _ _ _ h => h) (Or.inl ⟨by rfl, ?_⟩) ?_ ?_
                rotate_left
                · intro w'
                  go_simp
                  with_reducible rfl
                rotate_left
                · simp only [Act.put, List.setIfInBounds_toArray, List.set_cons_zero, List.set_cons_succ, i64_w, i32_w]
                  rfl
                refine pure_ (i := 1) (N := some 16) (v := ?_) (a' := ?_) #[true, true, false, false, false, false, false, false, false, false, false] rfl rfl (any_of HT_.out (by kernel_rfl)) (fun _ _ _ h => h) (Or.inl ⟨by rfl, ?_⟩) ?_ ?_
                rotate_left
                · intro w'
                  go_simp
                  with_reducible rfl
                rotate_left
                · simp only [Act.put, List.setIfInBounds_toArray, List.set_cons_zero, List.set_cons_succ, i64_w, i32_w]
                  rfl
                refine pure_ (i := 2) (N := some 17) (v := ?_) (a' := ?_) #[true, true, true, false, false, false, false, false, false, false, false] rfl rfl (any_of HT_.out (by kernel_rfl)) (fun _ _ _ h => h) (Or.inl ⟨by rfl, ?_⟩) ?_ ?_
                rotate_left
                · intro w'
                  go_simp
                  with_reducible rfl
                rotate_left
                · simp only [Act.put, List.setIfInBounds_toArray, List.set_cons_zero, List.set_cons_succ, i64_w, i32_w]
                  rfl
                refine pure_ (i := 3) (N := some 18) (v := ?_) (a' := ?_) #[true, true, true, true, false, false, false, false, false, false, false] rfl rfl (any_of HT_.out (by kernel_rfl)) (fun _ _ _ h => h) (Or.inl ⟨by rfl, ?_⟩) ?_ ?_
                rotate_left
                · intro w'
                  go_simp
                  with_reducible rfl
                rotate_left
                · simp only [Act.put, List.setIfInBounds_toArray, List.set_cons_zero, List.set_cons_succ, i64_w, i32_w]
                  rfl
                refine pure_ (i := 4) (N := some 19) (v := ?_) (a' := ?_) #[true, true, true, true, true, false, false, false, false, false, false] rfl rfl (any_of HT_.out (by kernel_rfl)) (fun _ _ _ h => h) (Or.inl ⟨by rfl, ?_⟩) ?_ ?_
                rotate_left
                · intro w'
                  go_simp
                  with_reducible rfl
                rotate_left
                · simp only [Act.put, List.setIfInBounds_toArray, List.set_cons_zero, List.set_cons_succ, i64_w, i32_w]
                  rfl
                refine pure_ (i := 5) (N := some 20) (v := ?_) (a' := ?_) #[true, true, true, true, true, true, false, false, false, false, false] rfl rfl (any_of HT_.out (by kernel_rfl)) (fun _ _ _ h => h) (Or.inl ⟨by rfl, ?_⟩) ?_ ?_
                rotate_left
                · intro w'
                  go_simp
                  with_reducible rfl
                rotate_left
                · simp only [Act.put, List.setIfInBounds_toArray, List.set_cons_zero, List.set_cons_succ, i64_w, i32_w]
                  rfl
                refine pure_ (i := 6) (N := some 21) (v := ?_) (a' := ?_) #[true, true, true, true, true, true, true, false, false, false, false] rfl rfl (any_of HT_.out (by kernel_rfl)) (fun _ _ _ h => h) (Or.inl ⟨by rfl, ?_⟩) ?_ ?_
                rotate_left
                · intro w'
                  go_simp
                  with_reducible rfl
                rotate_left
                · simp only [Act.put, List.setIfInBounds_toArray, List.set_cons_zero, List.set_cons_succ, i64_w, i32_w]
                  rfl
                refine one_ (i := 7) (N := some 22) #[true, true, true, true, true, true, true, true, false, false, false] rfl rfl (one_of HT_.out (by kernel_rfl)) (by decide) (fun K hK => ?_)
                refine goes_ Tryz.func37 (by kernel_rfl) rfl #[.string (cutS a0 (x7_1 : Int).toNat a0.size), .string (⟨#[32, 9, 13, 10]⟩ : ByteArray)] (by rfl) rfl rfl (by (try simp only [List.map_toArray, List.map_cons, List.map_nil]); first | done | rfl | (simp only [List.length_drop, List.length_take]; rfl)) ?_
                with_reducible refine (strings_TrimLeft.calls (cutS a0 (x7_1 : Int).toNat a0.size) (⟨#[32, 9, 13, 10]⟩ : ByteArray) t137 _ A12.out).mono ?_
                rintro e w23 ⟨rfl, hb⟩
                refine ⟨_, rfl, ?_⟩
                have n0_ := Aside0.mk (Kd.R_below (by (with_reducible repeat (first | apply Kd.R_alloc | apply Kd.R_drewN | apply Kd.R_drew)); exact HO_5.out) hb)
                have n1_ := Aside0.mk (blk_below (g := gb132) (o := .cells #[.int .i64 x133000_1, .int .i64 x133001_1, .int .i64 x133002_1] 26 (0, 0)) (by (with_reducible repeat (first | refine blk_drewN ?_ _ | refine blk_drew ?_ | refine blk_alloc ?_ _)); exact BK132.out) hb)
                have n2_ := Aside0.mk (blk_below (g := gb136) (o := .cells #[.int .i64 x137000_1, .int .i64 x137001_1, .int .i64 x137002_1] 26 (0, 0)) (by (with_reducible repeat (first | refine blk_drewN ?_ _ | refine blk_drew ?_ | refine blk_alloc ?_ _)); exact BK136.out) hb)
                have n3_ := Aside0.mk (below_step (by repeat (first | (with_reducible first | exact HB.out | apply below_alloc | apply pw_below_drewN | apply below_drew1 | refine below_set ?_ GE132.out | refine below_set ?_ GE136.out) | exact HB.out)) hb)
                clear HO_5
                clear BK132
                clear BK136
                clear HB
                have HO_5 := n0_
                have BK132 := n1_
                have BK136 := n2_
                have HB := n3_
                clear n0_ n1_ n2_ n3_
                (try clear hb)
                (try clear hb2)
                (try clear hk)
                (try clear hi)
                refine hK.out _ _ trivial (fun hHeld => ?_)
                clear hK K
                refine norm_ (a' := ?_) ?_ ?_
                rotate_left
                · show Act.put _ (some 22) _ = _
                  simp only [Act.put, List.setIfInBounds_toArray, List.set_cons_zero, List.set_cons_succ, i64_w, i32_w]
                  rfl
                refine pure_ (i := 8) (N := some 23) (v := ?_) (a' := ?_) #[true, true, true, true, true, true, true, true, true, false, false] rfl rfl (any_of HT_.out (by kernel_rfl)) (fun _ _ _ h => h) (Or.inl ⟨by rfl, ?_⟩) ?_ ?_
                rotate_left
                · intro w'
                  go_simp
                  with_reducible rfl
                rotate_left
                · simp only [Act.put, List.setIfInBounds_toArray, List.set_cons_zero, List.set_cons_succ, i64_w, i32_w]
                  rfl
                refine pure_ (i := 9) (N := some 24) (v := ?_) (a' := ?_) #[true, true, true, true, true, true, true, true, true, true, false] rfl rfl (any_of HT_.out (by kernel_rfl)) (fun _ _ _ h => h) (Or.inl ⟨by rfl, ?_⟩) ?_ ?_
                rotate_left
                · intro w'
                  go_simp
                  with_reducible rfl
                rotate_left
                · simp only [Act.put, List.setIfInBounds_toArray, List.set_cons_zero, List.set_cons_succ, i64_w, i32_w]
                  rfl
                refine pure_ (i := 10) (N := some 8) (v := ?_) (a' := ?_) #[true, true, true, true, true, true, true, true, true, true, true] rfl rfl (any_of HT_.out (by kernel_rfl)) (fun _ _ _ h => h) (Or.inl ⟨by rfl, ?_⟩) ?_ ?_
                rotate_left
                · intro w'
                  go_simp
                  with_reducible rfl
                rotate_left
                · simp only [Act.put, List.setIfInBounds_toArray, List.set_cons_zero, List.set_cons_succ, i64_w, i32_w]
                  rfl
                refine done_ (done_of HT_.out (by kernel_rfl)) ?_
                try go_wp2_with (first | ((with_reducible refine gate_callee (f := 38) rfl ?_); refine goesL_ (some 31) rfl rfl Tryz.func38 (by kernel_rfl) rfl #[.string (cutS a0 (x7_1 : Int).toNat ((wrap64 (x7_1 + (wrap64 (((cutS a0 (x7_1 : Int).toNat a0.size).size : Int) - (t137.size : Int))))) : Int).toNat), .string (⟨#[10]⟩ : ByteArray)] rfl (by (try simp only [List.map_toArray, List.map_cons, List.map_nil]); first | done | rfl | (simp only [List.length_drop, List.length_take]; rfl)) ?_; (with_reducible refine (strings_Count.calls (cutS a0 (x7_1 : Int).toNat ((wrap64 (x7_1 + (wrap64 (((cutS a0 (x7_1 : Int).toNat a0.size).size : Int) - (t137.size : Int))))) : Int).toNat) (⟨#[10]⟩ : ByteArray) t138 _ A16.out).mono ?_); rintro e w24 ⟨rfl, hb⟩; refine ⟨_, rfl, ?_⟩; have n0_ := Aside0.mk (Kd.R_below (by (with_reducible repeat (first | apply Kd.R_alloc | apply Kd.R_drewN | apply Kd.R_drew)); exact HO_5.out) hb); have n1_ := Aside0.mk (blk_below (g := gb132) (o := .cells #[.int .i64 x133000_1, .int .i64 x133001_1, .int .i64 x133002_1] 26 (0, 0)) (by (with_reducible repeat (first | refine blk_drewN ?_ _ | refine blk_drew ?_ | refine blk_alloc ?_ _)); exact BK132.out) hb); have n2_ := Aside0.mk (blk_below (g := gb136) (o := .cells #[.int .i64 x137000_1, .int .i64 x137001_1, .int .i64 x137002_1] 26 (0, 0)) (by (with_reducible repeat (first | refine blk_drewN ?_ _ | refine blk_drew ?_ | refine blk_alloc ?_ _)); exact BK136.out) hb); have n3_ := Aside0.mk (below_step (by repeat (first | (with_reducible first | exact HB.out | apply below_alloc | apply pw_below_drewN | apply below_drew1 | refine below_set ?_ GE132.out | refine below_set ?_ GE136.out) | exact HB.out)) hb); clear HO_5; clear BK132; clear BK136; clear HB; have HO_5 := n0_; have BK132 := n1_; have BK136 := n2_; have HB := n3_; clear n0_ n1_ n2_ n3_; (try clear hb); (try clear hb2); (try clear hk); (try clear hi)))
                have n0_ := Aside0.mk (Kd.R_drew HO_5.out)
                have n1_ := Aside0.mk (blk_drew BK132.out)
                have n2_ := Aside0.mk (blk_drew BK136.out)
                have n3_ := Aside0.mk (below_drew1 HB.out)
                clear HO_5
                clear BK132
                clear BK136
                clear HB
                have HO_5 := n0_
                have BK132 := n1_
                have BK136 := n2_
                have HB := n3_
                clear n0_ n1_ n2_ n3_
                refine start_ (n := 13) (S := fun w' => w'.cell? ⟨gb136, 0, none⟩ = some (.int .i64 x137000_1) ∧ w'.cell? ⟨gb136, 1, none⟩ = some (.int .i64 x137001_1) ∧ w'.cell? ⟨gb136, 2, none⟩ = some (.int .i64 x137002_1)) (ds := [11]) #[false, false, false, false, false, false, false, false, false, false, false, false, false] (by kernel_rfl) rfl rfl ⟨(blk_cell BK136.out 0).trans rfl, (blk_cell BK136.out 1).trans rfl, (blk_cell BK136.out 2).trans rfl⟩ (fun hHeld => ?_); refine with_tabW scan_All.tab5 scan_All.bits5 (fun HT_ HW_ => ?_)
                generalize w24.drew = w25 at HO_5 BK132 BK136 HB hHeld ⊢
                refine pure_ (i := 1) (N := some 33) (v := ?_) (a' := ?_) #[false, true, false, false, false, false, false, false, false, false, false, false, false] rfl rfl (any_of HT_.out (by kernel_rfl)) (fun _ _ _ h => h) (Or.inl ⟨by rfl, ?_⟩) ?_ ?_
                rotate_left
                · intro w'
                  go_simp
                  with_reducible rfl
                rotate_left
                · simp only [Act.put, List.setIfInBounds_toArray, List.set_cons_zero, List.set_cons_succ, i64_w, i32_w]
                  rfl
                refine pure_ (i := 2) (N := some 34) (v := ?_) (a' := ?_) #[false, true, true, false, false, false, false, false, false, false, false, false, false] rfl rfl (any_of HT_.out (by kernel_rfl)) (fun _ _ _ h => h) (Or.inl ⟨by rfl, ?_⟩) ?_ ?_
                rotate_left
                · intro w'
                  go_simp
                  with_reducible rfl
                rotate_left
                · simp only [Act.put, List.setIfInBounds_toArray, List.set_cons_zero, List.set_cons_succ, i64_w, i32_w]
                  rfl
                refine pure_ (i := 3) (N := some 35) (v := ?_) (a' := ?_) #[false, true, true, true, false, false, false, false, false, false, false, false, false] rfl rfl (any_of HT_.out (by kernel_rfl)) (fun _ _ _ h => h) (Or.inl ⟨by rfl, ?_⟩) ?_ ?_
                rotate_left
                · intro w'
                  go_simp
                  with_reducible rfl
                rotate_left
                · simp only [Act.put, List.setIfInBounds_toArray, List.set_cons_zero, List.set_cons_succ, i64_w, i32_w]
                  rfl
                refine pure_ (i := 4) (N := some 36) (v := ?_) (a' := ?_) #[false, true, true, true, true, false, false, false, false, false, false, false, false] rfl rfl (any_of HT_.out (by kernel_rfl)) (fun _ _ _ h => h) (Or.inl ⟨by rfl, ?_⟩) ?_ ?_
                rotate_left
                · intro w'
                  go_simp
                  with_reducible rfl
                rotate_left
                · simp only [Act.put, List.setIfInBounds_toArray, List.set_cons_zero, List.set_cons_succ, i64_w, i32_w]
                  rfl
                refine pure_ (i := 5) (N := some 37) (v := ?_) (a' := ?_) #[false, true, true, true, true, true, false, false, false, false, false, false, false] rfl rfl (any_of HT_.out (by kernel_rfl)) (fun _ _ _ h => h) (Or.inl ⟨by rfl, ?_⟩) ?_ ?_
                rotate_left
                · intro w'
                  go_simp
                  with_reducible rfl
                rotate_left
                · simp only [Act.put, List.setIfInBounds_toArray, List.set_cons_zero, List.set_cons_succ, i64_w, i32_w]
                  rfl
                refine pure_ (i := 6) (N := some 38) (v := ?_) (a' := ?_) #[false, true, true, true, true, true, true, false, false, false, false, false, false] rfl rfl (any_of HT_.out (by kernel_rfl)) (fun _ _ _ h => h) (Or.inl ⟨by rfl, ?_⟩) ?_ ?_
                rotate_left
                · intro w'
                  go_simp
                  with_reducible rfl
                rotate_left
                · simp only [Act.put, List.setIfInBounds_toArray, List.set_cons_zero, List.set_cons_succ, i64_w, i32_w]
                  rfl
                refine pure_ (i := 8) (N := some 40) (v := ?_) (a' := ?_) #[false, true, true, true, true, true, true, false, true, false, false, false, false] rfl rfl (any_of HT_.out (by kernel_rfl)) (fun _ _ _ h => h) (Or.inl ⟨by rfl, ?_⟩) ?_ ?_
                rotate_left
                · intro w'
                  go_simp
                  with_reducible rfl
                rotate_left
                · simp only [Act.put, List.setIfInBounds_toArray, List.set_cons_zero, List.set_cons_succ, i64_w, i32_w]
                  rfl
                refine pure_ (i := 9) (N := some 41) (v := ?_) (a' := ?_) #[false, true, true, true, true, true, true, false, true, true, false, false, false] rfl rfl (any_of HT_.out (by kernel_rfl)) (fun _ _ _ h => h) (Or.inl ⟨by rfl, ?_⟩) ?_ ?_
                rotate_left
                · intro w'
                  go_simp
                  with_reducible rfl
                rotate_left
                · simp only [Act.put, List.setIfInBounds_toArray, List.set_cons_zero, List.set_cons_succ, i64_w, i32_w]
                  rfl
                refine pure_ (i := 10) (N := some 42) (v := ?_) (a' := ?_) #[false, true, true, true, true, true, true, false, true, true, true, false, false] rfl rfl (any_of HT_.out (by kernel_rfl)) (fun _ _ _ h => h) (Or.inl ⟨by rfl, ?_⟩) ?_ ?_
                rotate_left
                · intro w'
                  go_simp
                  with_reducible rfl
                rotate_left
                · simp only [Act.put, List.setIfInBounds_toArray, List.set_cons_zero, List.set_cons_succ, i64_w, i32_w]
                  rfl
                refine take_ (i := 0) (N := some 32) (v := ?_) (a' := ?_) #[true, true, true, true, true, true, true, false, true, true, true, false, false] rfl rfl (take_ofW HT_.out HW_.out (by kernel_rfl)) (fun _ _ _ h => h) (Or.inl ⟨by rfl, ?_⟩) hHeld ?_ ?_
                rotate_left
                · rintro w' ⟨s0, s1, s2⟩
                  go_simp
                  with_reducible rfl
                rotate_left
                · simp only [Act.put, List.setIfInBounds_toArray, List.set_cons_zero, List.set_cons_succ, i64_w, i32_w]
                  rfl
                refine one_ (i := 7) (N := some 39) #[true, true, true, true, true, true, true, true, true, true, true, false, false] rfl rfl (one_of HT_.out (by kernel_rfl)) (by decide) (fun K hK => ?_)
                refine goes_ Tryz.func39 (by kernel_rfl) rfl #[.agg #[.int .i64 x137000_1, .int .i64 x137001_1, .int .i64 x137002_1], .string (cutS a0 (x7_1 : Int).toNat ((wrap64 (x7_1 + (wrap64 (((cutS a0 (x7_1 : Int).toNat a0.size).size : Int) - (t137.size : Int))))) : Int).toNat)] (by rfl) rfl rfl (by (try simp only [List.map_toArray, List.map_cons, List.map_nil]); first | done | rfl | (simp only [List.length_drop, List.length_take]; rfl)) ?_
                with_reducible refine (place_Advance.calls x137000_1 x137001_1 x137002_1 (cutS a0 (x7_1 : Int).toNat ((wrap64 (x7_1 + (wrap64 (((cutS a0 (x7_1 : Int).toNat a0.size).size : Int) - (t137.size : Int))))) : Int).toNat) t139 t140 t141 _ A20.out).mono ?_
                rintro e w26 ⟨rfl, hb⟩
                refine ⟨_, rfl, ?_⟩
                have n0_ := Aside0.mk (Kd.R_below (by (with_reducible repeat (first | apply Kd.R_alloc | apply Kd.R_drewN | apply Kd.R_drew)); exact HO_5.out) hb)
                have n1_ := Aside0.mk (blk_below (g := gb132) (o := .cells #[.int .i64 x133000_1, .int .i64 x133001_1, .int .i64 x133002_1] 26 (0, 0)) (by (with_reducible repeat (first | refine blk_drewN ?_ _ | refine blk_drew ?_ | refine blk_alloc ?_ _)); exact BK132.out) hb)
                have n2_ := Aside0.mk (blk_below (g := gb136) (o := .cells #[.int .i64 x137000_1, .int .i64 x137001_1, .int .i64 x137002_1] 26 (0, 0)) (by (with_reducible repeat (first | refine blk_drewN ?_ _ | refine blk_drew ?_ | refine blk_alloc ?_ _)); exact BK136.out) hb)
                have n3_ := Aside0.mk (below_step (by repeat (first | (with_reducible first | exact HB.out | apply below_alloc | apply pw_below_drewN | apply below_drew1 | refine below_set ?_ GE132.out | refine below_set ?_ GE136.out) | exact HB.out)) hb)
                clear HO_5
                clear BK132
                clear BK136
                clear HB
                have HO_5 := n0_
                have BK132 := n1_
                have BK136 := n2_
                have HB := n3_
                clear n0_ n1_ n2_ n3_
                (try clear hb)
                (try clear hb2)
                (try clear hk)
                (try clear hi)
                refine hK.out _ _ ⟨(blk_cell BK136.out 0).trans rfl, (blk_cell BK136.out 1).trans rfl, (blk_cell BK136.out 2).trans rfl⟩ (fun hHeld => ?_)
                clear hK K
                refine norm_ (a' := ?_) ?_ ?_
                rotate_left
                · show Act.put _ (some 39) _ = _
                  simp only [Act.put, List.setIfInBounds_toArray, List.set_cons_zero, List.set_cons_succ, i64_w, i32_w]
                  rfl
                refine last_ (i := 11) (N := none) #[true, true, true, true, true, true, true, true, true, true, true, true, false] rfl rfl (one_of HT_.out (by kernel_rfl)) (by decide) (fun K hK => ?_)
                have hs27 : w26.cell? ⟨gb136, 0, none⟩ = some (.int .i64 x137000_1) := (blk_cell BK136.out 0).trans rfl
                have hfs27 := blk_frozen BK136.out 0
                have hns27_0 := NB132_136.out
                have hms27_0 := NB136_132.out
                have hs28 : w26.cell? ⟨gb136, 1, none⟩ = some (.int .i64 x137001_1) := (blk_cell BK136.out 1).trans rfl
                have hfs28 := blk_frozen BK136.out 1
                have hns28_0 := NB132_136.out
                have hms28_0 := NB136_132.out
                have hs29 : w26.cell? ⟨gb136, 2, none⟩ = some (.int .i64 x137002_1) := (blk_cell BK136.out 2).trans rfl
                have hfs29 := blk_frozen BK136.out 2
                have hns29_0 := NB132_136.out
                have hms29_0 := NB136_132.out
                refine skip_ (w1 := ?_) (by rfl) rfl ?_ ?_
                rotate_left
                · go_simp
                  rfl
                refine hK.out _ _ ?_
                clear hK K
                refine pure_ (i := 12) (N := some 7) (v := ?_) (a' := ?_) #[true, true, true, true, true, true, true, true, true, true, true, true, true] rfl rfl (any_of HT_.out (by kernel_rfl)) (fun _ _ _ h => h) (Or.inl ⟨by rfl, ?_⟩) ?_ ?_
                rotate_left
                · intro w'
                  go_simp
                  with_reducible rfl
                rotate_left
                · simp only [Act.put, List.setIfInBounds_toArray, List.set_cons_zero, List.set_cons_succ, i64_w, i32_w]
                  rfl
                refine done_ (done_of HT_.out (by kernel_rfl)) ?_
                have hnb30 := NB132_136.out
                have hnc30 := NB136_132.out
                have hcz31_0 : w26.cell? ⟨gb132, 0, none⟩ = some (.int .i64 x133000_1) := (blk_cell BK132.out 0).trans rfl
                have hcz31_1 : w26.cell? ⟨gb132, 1, none⟩ = some (.int .i64 x133001_1) := (blk_cell BK132.out 1).trans rfl
                have hcz31_2 : w26.cell? ⟨gb132, 2, none⟩ = some (.int .i64 x133002_1) := (blk_cell BK132.out 2).trans rfl
                have hfz31_0 := blk_frozen BK132.out 0
                have hfz31_1 := blk_frozen BK132.out 1
                have hfz31_2 := blk_frozen BK132.out 2
                try go_wp2
                refine bodyPost_ret (results_list (rs := [.tmp 2, .tmp 3, .cell 4 26]) rfl (by simp) (.tmp (.tmp (.cell gb132 26 #[.int .i64 0, .int .i64 0, .int .i64 0] (0, 0) _ rfl (by (with_reducible repeat (first | refine blk_drewN ?_ _ | refine blk_drew ?_ | refine blk_alloc ?_ _)); refine blk_put (cs := #[.int .i64 0, .int .i64 0, .int .i64 x133002_1]) ?_ 2 _ rfl; (with_reducible repeat (first | refine blk_drewN ?_ _ | refine blk_drew ?_ | refine blk_alloc ?_ _)); refine blk_put (cs := #[.int .i64 0, .int .i64 x133001_1, .int .i64 x133002_1]) ?_ 1 _ rfl; (with_reducible repeat (first | refine blk_drewN ?_ _ | refine blk_drew ?_ | refine blk_alloc ?_ _)); refine blk_put (cs := #[.int .i64 x133000_1, .int .i64 x133001_1, .int .i64 x133002_1]) ?_ 0 _ rfl; (with_reducible repeat (first | refine blk_drewN ?_ _ | refine blk_drew ?_ | refine blk_alloc ?_ _)); refine blk_far ?_ NB132_136.out _; (with_reducible repeat (first | refine blk_drewN ?_ _ | refine blk_drew ?_ | refine blk_alloc ?_ _)); refine blk_far ?_ NB132_136.out _; (with_reducible repeat (first | refine blk_drewN ?_ _ | refine blk_drew ?_ | refine blk_alloc ?_ _)); refine blk_far ?_ NB132_136.out _; (with_reducible repeat (first | refine blk_drewN ?_ _ | refine blk_drew ?_ | refine blk_alloc ?_ _)); exact BK132.out) Tryz.underlying26 rfl (by kernel_rfl) .nil)))) rfl ?_
                exact ⟨_, by first | rfl | (simp [errW_none, errW_some] <;> rfl) | (simp [*, errW_none, errW_some] <;> rfl), by (with_reducible repeat (first | apply Kd.R_alloc | apply Kd.R_drewN | apply Kd.R_drew)); exact Kd.R_mono (Kd.R_far (p := ⟨gb132, 2, none⟩) (Kd.R_far (p := ⟨gb132, 1, none⟩) (Kd.R_far (p := ⟨gb132, 0, none⟩) (Kd.R_far (p := ⟨gb136, 2, none⟩) (Kd.R_far (p := ⟨gb136, 1, none⟩) (Kd.R_far (p := ⟨gb136, 0, none⟩) (Kd.R_types (Kd.R_types HO_5.out BK136.out (by decide)) BK132.out (by decide)) (fun _ hk => hk.1.2) (.int .i64 t139)) (fun _ hk => hk.1.2) (.int .i64 t140)) (fun _ hk => hk.1.2) (.int .i64 t141)) (fun _ hk => hk.2) (.int .i64 0)) (fun _ hk => hk.2) (.int .i64 0)) (fun _ hk => hk.2) (.int .i64 0)) (fun _ hk => trivial), by repeat (first | (with_reducible first | exact HB.out | apply below_alloc | apply pw_below_drewN | apply below_drew1 | refine below_set ?_ GE132.out | refine below_set ?_ GE136.out) | exact HB.out)⟩
              · rw [if_neg c21] at H
                have c21b0 : ((wrap64 (x7_1 + (wrap64 (((cutS a0 (x7_1 : Int).toNat a0.size).size : Int) - (t137.size : Int))))) == (a0.size : Int)) = false := beq_eq_false_iff_ne.mpr c21
                have c21b1 : ((wrap64 (x7_1 + (wrap64 (((cutS a0 (x7_1 : Int).toNat a0.size).size : Int) - (t137.size : Int))))) != (a0.size : Int)) = true := bne_iff_ne.mpr c21
                replace H := Option.bind_eq_some_iff.mp H
                obtain ⟨⟨t142, t143, t144⟩, A320, H⟩ := H
                replace H : (if t144 = 0 then (if 0 ≤ (wrap64 (x7_1 + (wrap64 (((cutS a0 (x7_1 : Int).toNat a0.size).size : Int) - (t137.size : Int))))) then (if (wrap64 (x7_1 + (wrap64 (((cutS a0 (x7_1 : Int).toNat a0.size).size : Int) - (t137.size : Int))))) ≤ t143 then (if t143 ≤ (a0.size : Int) then (if t142 = 7 then ((strings_TrimRight.f (cutS a0 ((wrap64 (x7_1 + (wrap64 (((cutS a0 (x7_1 : Int).toNat a0.size).size : Int) - (t137.size : Int))))) : Int).toNat (t143 : Int).toNat) (⟨#[32, 9, 13]⟩ : ByteArray)).bind fun t148 => (if x5_1.length < 2513169434916 then ((place_Advance.f t139 t140 t141 (cutS a0 ((wrap64 (x7_1 + (wrap64 (((cutS a0 (x7_1 : Int).toNat a0.size).size : Int) - (t137.size : Int))))) : Int).toNat (t143 : Int).toNat)).bind fun bt152 => (scan_All.l0 k1 a0 (x5_1 ++ [(⟨t142, t148, (⟨t139, t140, t141⟩ : S26), t138⟩ : S48)]) t143 bt152.1 bt152.2.1 bt152.2.2)) else (none))) else (if x5_1.length < 2513169434916 then ((place_Advance.f t139 t140 t141 (cutS a0 ((wrap64 (x7_1 + (wrap64 (((cutS a0 (x7_1 : Int).toNat a0.size).size : Int) - (t137.size : Int))))) : Int).toNat (t143 : Int).toNat)).bind fun bt158 => (scan_All.l0 k1 a0 (x5_1 ++ [(⟨t142, cutS a0 ((wrap64 (x7_1 + (wrap64 (((cutS a0 (x7_1 : Int).toNat a0.size).size : Int) - (t137.size : Int))))) : Int).toNat (t143 : Int).toNat, (⟨t139, t140, t141⟩ : S26), t138⟩ : S48)]) t143 bt158.1 bt158.2.1 bt158.2.2)) else (none))) else (none)) else (none)) else (none)) else (if 0 ≤ (wrap64 (x7_1 + (wrap64 (((cutS a0 (x7_1 : Int).toNat a0.size).size : Int) - (t137.size : Int))))) then (if (wrap64 (x7_1 + (wrap64 (((cutS a0 (x7_1 : Int).toNat a0.size).size : Int) - (t137.size : Int))))) ≤ t143 then (if t143 ≤ (a0.size : Int) then ((place_Advance.f t139 t140 t141 (cutS a0 ((wrap64 (x7_1 + (wrap64 (((cutS a0 (x7_1 : Int).toNat a0.size).size : Int) - (t137.size : Int))))) : Int).toNat (t143 : Int).toNat)).bind fun bt145 => (some (x5_1, t144, bt145.1, bt145.2.1, bt145.2.2))) else (none)) else (none)) else (none))) = some (r1, r2, r3, r4, r5) := H
                have A32 := Aside0.mk A320
                clear A320
                by_cases c33 : t144 = 0
                · rw [if_pos c33] at H
                  have c33b0 : (t144 == 0) = true := beq_iff_eq.mpr c33
                  have c33b1 : (t144 != 0) = false := bne_eq_false_iff_eq.mpr c33
                  clear c33
                  obtain ⟨ji34, hji34⟩ : ∃ j_ : Int, (wrap64 (x7_1 + (wrap64 (((cutS a0 (x7_1 : Int).toNat a0.size).size : Int) - (t137.size : Int))))) = j_ := ⟨_, rfl⟩
                  replace H : (if 0 ≤ (ji34) then (if (ji34) ≤ t143 then (if t143 ≤ (a0.size : Int) then (if t142 = 7 then ((strings_TrimRight.f (cutS a0 ((ji34) : Int).toNat (t143 : Int).toNat) (⟨#[32, 9, 13]⟩ : ByteArray)).bind fun t148 => (if x5_1.length < 2513169434916 then ((place_Advance.f t139 t140 t141 (cutS a0 ((ji34) : Int).toNat (t143 : Int).toNat)).bind fun bt152 => (scan_All.l0 k1 a0 (x5_1 ++ [(⟨t142, t148, (⟨t139, t140, t141⟩ : S26), t138⟩ : S48)]) t143 bt152.1 bt152.2.1 bt152.2.2)) else (none))) else (if x5_1.length < 2513169434916 then ((place_Advance.f t139 t140 t141 (cutS a0 ((ji34) : Int).toNat (t143 : Int).toNat)).bind fun bt158 => (scan_All.l0 k1 a0 (x5_1 ++ [(⟨t142, cutS a0 ((ji34) : Int).toNat (t143 : Int).toNat, (⟨t139, t140, t141⟩ : S26), t138⟩ : S48)]) t143 bt158.1 bt158.2.1 bt158.2.2)) else (none))) else (none)) else (none)) else (none)) = some (r1, r2, r3, r4, r5) := by first | (rw [hji34] at H; exact H) | (simp only [hji34] at H ⊢; exact H)
                  (try rw [hji34] at c14b0)
                  (try rw [hji34] at c14b1)
                  (try rw [hji34] at c14)
                  (try rw [hji34] at c15b0)
                  (try rw [hji34] at c15b1)
                  (try rw [hji34] at c15)
                  (try rw [hji34] at c21b0)
                  (try rw [hji34] at c21b1)
                  (try rw [hji34] at A12)
                  (try rw [hji34] at A16)
                  (try rw [hji34] at A20)
                  (try rw [hji34] at A32)
                  have hji34w : (IntKind.i64.wrap (x7_1 + (wrap64 (((cutS a0 (x7_1 : Int).toNat a0.size).size : Int) - (t137.size : Int))))) = ji34 := (i64_w _).trans hji34
                  by_cases c35 : 0 ≤ (ji34)
                  · rw [if_pos c35] at H
                    have c35b0 := eq_true c35
                    have c35b1 : decide (0 ≤ (ji34)) = true := decide_eq_true c35
                    clear c35
                    by_cases c36 : (ji34) ≤ t143
                    · rw [if_pos c36] at H
                      have c36b0 := eq_true c36
                      have c36b1 : decide ((ji34) ≤ t143) = true := decide_eq_true c36
                      clear c36
                      by_cases c37 : t143 ≤ (a0.size : Int)
                      · rw [if_pos c37] at H
                        have c37b0 := eq_true c37
                        have c37b1 : decide (t143 ≤ (a0.size : Int)) = true := decide_eq_true c37
                        clear c37
                        by_cases c38 : t142 = 7
                        · rw [if_pos c38] at H
                          have c38b0 : (t142 == 7) = true := beq_iff_eq.mpr c38
                          have c38b1 : (t142 != 7) = false := bne_eq_false_iff_eq.mpr c38
                          clear c38
                          replace H := Option.bind_eq_some_iff.mp H
                          obtain ⟨t148, A390, H⟩ := H
                          replace H : (if x5_1.length < 2513169434916 then ((place_Advance.f t139 t140 t141 (cutS a0 ((ji34) : Int).toNat (t143 : Int).toNat)).bind fun bt152 => (scan_All.l0 k1 a0 (x5_1 ++ [(⟨t142, t148, (⟨t139, t140, t141⟩ : S26), t138⟩ : S48)]) t143 bt152.1 bt152.2.1 bt152.2.2)) else (none)) = some (r1, r2, r3, r4, r5) := H
                          have A39 := Aside0.mk A390
                          clear A390
                          by_cases c40 : x5_1.length < 2513169434916
                          · rw [if_pos c40] at H
                            have LMc40 := Aside0.mk c40
                            clear c40
                            obtain ⟨y149, hy149⟩ : ∃ y_ : List (S48), y_ = (x5_1 ++ [(⟨t142, t148, (⟨t139, t140, t141⟩ : S26), t138⟩ : S48)]) := ⟨_, rfl⟩
                            replace H : ((place_Advance.f t139 t140 t141 (cutS a0 ((ji34) : Int).toNat (t143 : Int).toNat)).bind fun bt152 => (scan_All.l0 k1 a0 y149 t143 bt152.1 bt152.2.1 bt152.2.2)) = some (r1, r2, r3, r4, r5) := by first | (rw [hy149]; with_reducible exact H) | (have H2_ := (Option.bind_some _ _).symm.trans H; rw [hy149]; with_reducible exact H2_) | (have H2_ := (Option.bind_some _ _).symm.trans H; with_reducible exact H2_) | with_reducible exact H | (rw [hy149]; exact H) | exact H
                            have Ny149 := Aside0.mk hy149
                            clear hy149
                            have c41b0 := eq_true (of_decide_eq_true (by first | (with_reducible assumption) | assumption) : 0 ≤ (ji34))
                            have c42b0 := eq_true (of_decide_eq_true (by first | (with_reducible assumption) | assumption) : (ji34) ≤ t143)
                            have c43b0 := eq_true (of_decide_eq_true (by first | (with_reducible assumption) | assumption) : t143 ≤ (a0.size : Int))
                            replace H := Option.bind_eq_some_iff.mp H
                            obtain ⟨⟨t152, t153, t154⟩, A440, H⟩ := H
                            replace H : (scan_All.l0 k1 a0 y149 t143 t152 t153 t154) = some (r1, r2, r3, r4, r5) := H
                            have A44 := Aside0.mk A440
                            clear A440
                            have H' := Aside0.mk H
                            clear H
                            try go_wp2
                            have n0_ := Aside0.mk (Kd.R_drew HO_5.out)
                            have n1_ := Aside0.mk (blk_drew BK132.out)
                            have n2_ := Aside0.mk (blk_drew BK136.out)
                            have n3_ := Aside0.mk (below_drew1 HB.out)
                            clear HO_5
                            clear BK132
                            clear BK136
                            clear HB
                            have HO_5 := n0_
                            have BK132 := n1_
                            have BK136 := n2_
                            have HB := n3_
                            clear n0_ n1_ n2_ n3_
                            refine start_ (n := 11) (S := fun w' => True) (ds := []) #[false, false, false, false, false, false, false, false, false, false, false] (by kernel_rfl) rfl rfl trivial (fun hHeld => ?_); refine with_tabW scan_All.tab3 scan_All.bits3 (fun HT_ HW_ => ?_)
                            generalize wr.drew = w45 at HO_5 BK132 BK136 HB hHeld ⊢
                            refine pure_ (i := 0) (N := some 15) (v := ?_) (a' := ?_) #[true, false, false, false, false, false, false, false, false, false, false] rfl rfl (any_of HT_.out (by kernel_rfl)) (fun _ _ _ h => h) (Or.inl ⟨by rfl, ?_⟩) ?_ ?_
                            rotate_left
                            · intro w'
                              go_simp
                              with_reducible rfl
                            rotate_left
                            · simp only [Act.put, List.setIfInBounds_toArray, List.set_cons_zero, List.set_cons_succ, i64_w, i32_w]
                              rfl
                            refine pure_ (i := 1) (N := some 16) (v := ?_) (a' := ?_) #[true, true, false, false, false, false, false, false, false, false, false] rfl rfl (any_of HT_.out (by kernel_rfl)) (fun _ _ _ h => h) (Or.inl ⟨by rfl, ?_⟩) ?_ ?_
                            rotate_left
                            · intro w'
                              go_simp
                              with_reducible rfl
                            rotate_left
                            · simp only [Act.put, List.setIfInBounds_toArray, List.set_cons_zero, List.set_cons_succ, i64_w, i32_w]
                              rfl
                            refine pure_ (i := 2) (N := some 17) (v := ?_) (a' := ?_) #[true, true, true, false, false, false, false, false, false, false, false] rfl rfl (any_of HT_.out (by kernel_rfl)) (fun _ _ _ h => h) (Or.inl ⟨by rfl, ?_⟩) ?_ ?_
                            rotate_left
                            · intro w'
                              go_simp
                              with_reducible rfl
                            rotate_left
                            · simp only [Act.put, List.setIfInBounds_toArray, List.set_cons_zero, List.set_cons_succ, i64_w, i32_w]
                              rfl
                            refine pure_ (i := 3) (N := some 18) (v := ?_) (a' := ?_) #[true, true, true, true, false, false, false, false, false, false, false] rfl rfl (any_of HT_.out (by kernel_rfl)) (fun _ _ _ h => h) (Or.inl ⟨by rfl, ?_⟩) ?_ ?_
                            rotate_left
                            · intro w'
                              go_simp
                              with_reducible rfl
                            rotate_left
                            · simp only [Act.put, List.setIfInBounds_toArray, List.set_cons_zero, List.set_cons_succ, i64_w, i32_w]
                              rfl
                            refine pure_ (i := 4) (N := some 19) (v := ?_) (a' := ?_) #[true, true, true, true, true, false, false, false, false, false, false] rfl rfl (any_of HT_.out (by kernel_rfl)) (fun _ _ _ h => h) (Or.inl ⟨by rfl, ?_⟩) ?_ ?_
                            rotate_left
                            · intro w'
                              go_simp
                              with_reducible rfl
                            rotate_left
                            · simp only [Act.put, List.setIfInBounds_toArray, List.set_cons_zero, List.set_cons_succ, i64_w, i32_w]
                              rfl
                            refine pure_ (i := 5) (N := some 20) (v := ?_) (a' := ?_) #[true, true, true, true, true, true, false, false, false, false, false] rfl rfl (any_of HT_.out (by kernel_rfl)) (fun _ _ _ h => h) (Or.inl ⟨by rfl, ?_⟩) ?_ ?_
                            rotate_left
                            · intro w'
                              go_simp
                              with_reducible rfl
                            rotate_left
                            · simp only [Act.put, List.setIfInBounds_toArray, List.set_cons_zero, List.set_cons_succ, i64_w, i32_w]
                              rfl
                            refine pure_ (i := 6) (N := some 21) (v := ?_) (a' := ?_) #[true, true, true, true, true, true, true, false, false, false, false] rfl rfl (any_of HT_.out (by kernel_rfl)) (fun _ _ _ h => h) (Or.inl ⟨by rfl, ?_⟩) ?_ ?_
                            rotate_left
                            · intro w'
                              go_simp
                              with_reducible rfl
                            rotate_left
                            · simp only [Act.put, List.setIfInBounds_toArray, List.set_cons_zero, List.set_cons_succ, i64_w, i32_w]
                              rfl
                            refine one_ (i := 7) (N := some 22) #[true, true, true, true, true, true, true, true, false, false, false] rfl rfl (one_of HT_.out (by kernel_rfl)) (by decide) (fun K hK => ?_)
                            refine goes_ Tryz.func37 (by kernel_rfl) rfl #[.string (cutS a0 (x7_1 : Int).toNat a0.size), .string (⟨#[32, 9, 13, 10]⟩ : ByteArray)] (by rfl) rfl rfl (by (try simp only [List.map_toArray, List.map_cons, List.map_nil]); first | done | rfl | (simp only [List.length_drop, List.length_take]; rfl)) ?_
                            with_reducible refine (strings_TrimLeft.calls (cutS a0 (x7_1 : Int).toNat a0.size) (⟨#[32, 9, 13, 10]⟩ : ByteArray) t137 _ A12.out).mono ?_
                            rintro e w46 ⟨rfl, hb⟩
                            refine ⟨_, rfl, ?_⟩
                            have n0_ := Aside0.mk (Kd.R_below (by (with_reducible repeat (first | apply Kd.R_alloc | apply Kd.R_drewN | apply Kd.R_drew)); exact HO_5.out) hb)
                            have n1_ := Aside0.mk (blk_below (g := gb132) (o := .cells #[.int .i64 x133000_1, .int .i64 x133001_1, .int .i64 x133002_1] 26 (0, 0)) (by (with_reducible repeat (first | refine blk_drewN ?_ _ | refine blk_drew ?_ | refine blk_alloc ?_ _)); exact BK132.out) hb)
                            have n2_ := Aside0.mk (blk_below (g := gb136) (o := .cells #[.int .i64 x137000_1, .int .i64 x137001_1, .int .i64 x137002_1] 26 (0, 0)) (by (with_reducible repeat (first | refine blk_drewN ?_ _ | refine blk_drew ?_ | refine blk_alloc ?_ _)); exact BK136.out) hb)
                            have n3_ := Aside0.mk (below_step (by repeat (first | (with_reducible first | exact HB.out | apply below_alloc | apply pw_below_drewN | apply below_drew1 | refine below_set ?_ GE132.out | refine below_set ?_ GE136.out) | exact HB.out)) hb)
                            clear HO_5
                            clear BK132
                            clear BK136
                            clear HB
                            have HO_5 := n0_
                            have BK132 := n1_
                            have BK136 := n2_
                            have HB := n3_
                            clear n0_ n1_ n2_ n3_
                            (try clear hb)
                            (try clear hb2)
                            (try clear hk)
                            (try clear hi)
                            refine hK.out _ _ trivial (fun hHeld => ?_)
                            clear hK K
                            refine norm_ (a' := ?_) ?_ ?_
                            rotate_left
                            · show Act.put _ (some 22) _ = _
                              simp only [Act.put, List.setIfInBounds_toArray, List.set_cons_zero, List.set_cons_succ, i64_w, i32_w]
                              rfl
                            refine pure_ (i := 8) (N := some 23) (v := ?_) (a' := ?_) #[true, true, true, true, true, true, true, true, true, false, false] rfl rfl (any_of HT_.out (by kernel_rfl)) (fun _ _ _ h => h) (Or.inl ⟨by rfl, ?_⟩) ?_ ?_
                            rotate_left
                            · intro w'
                              go_simp
                              with_reducible rfl
                            rotate_left
                            · simp only [Act.put, List.setIfInBounds_toArray, List.set_cons_zero, List.set_cons_succ, i64_w, i32_w]
                              rfl
                            refine pure_ (i := 9) (N := some 24) (v := ?_) (a' := ?_) #[true, true, true, true, true, true, true, true, true, true, false] rfl rfl (any_of HT_.out (by kernel_rfl)) (fun _ _ _ h => h) (Or.inl ⟨by rfl, ?_⟩) ?_ ?_
                            rotate_left
                            · intro w'
                              go_simp
                              with_reducible rfl
                            rotate_left
                            · simp only [Act.put, List.setIfInBounds_toArray, List.set_cons_zero, List.set_cons_succ, i64_w, i32_w]
                              rfl
                            refine pure_ (i := 10) (N := some 8) (v := ?_) (a' := ?_) #[true, true, true, true, true, true, true, true, true, true, true] rfl rfl (any_of HT_.out (by kernel_rfl)) (fun _ _ _ h => h) (Or.inl ⟨by rfl, ?_⟩) ?_ ?_
                            rotate_left
                            · intro w'
                              go_simp
                              with_reducible rfl
                            rotate_left
                            · simp only [Act.put, List.setIfInBounds_toArray, List.set_cons_zero, List.set_cons_succ, i64_w, i32_w]
                              rfl
                            refine done_ (done_of HT_.out (by kernel_rfl)) ?_
                            try go_wp2_with (first | ((with_reducible refine gate_callee (f := 38) rfl ?_); refine goesL_ (some 31) rfl rfl Tryz.func38 (by kernel_rfl) rfl #[.string (cutS a0 (x7_1 : Int).toNat ((ji34) : Int).toNat), .string (⟨#[10]⟩ : ByteArray)] rfl (by (try simp only [List.map_toArray, List.map_cons, List.map_nil]); first | done | (simp only [hji34]; rfl) | rfl | (simp only [List.length_drop, List.length_take]; rfl)) ?_; (with_reducible refine (strings_Count.calls (cutS a0 (x7_1 : Int).toNat ((ji34) : Int).toNat) (⟨#[10]⟩ : ByteArray) t138 _ A16.out).mono ?_); rintro e w47 ⟨rfl, hb⟩; refine ⟨_, rfl, ?_⟩; have n0_ := Aside0.mk (Kd.R_below (by (with_reducible repeat (first | apply Kd.R_alloc | apply Kd.R_drewN | apply Kd.R_drew)); exact HO_5.out) hb); have n1_ := Aside0.mk (blk_below (g := gb132) (o := .cells #[.int .i64 x133000_1, .int .i64 x133001_1, .int .i64 x133002_1] 26 (0, 0)) (by (with_reducible repeat (first | refine blk_drewN ?_ _ | refine blk_drew ?_ | refine blk_alloc ?_ _)); exact BK132.out) hb); have n2_ := Aside0.mk (blk_below (g := gb136) (o := .cells #[.int .i64 x137000_1, .int .i64 x137001_1, .int .i64 x137002_1] 26 (0, 0)) (by (with_reducible repeat (first | refine blk_drewN ?_ _ | refine blk_drew ?_ | refine blk_alloc ?_ _)); exact BK136.out) hb); have n3_ := Aside0.mk (below_step (by repeat (first | (with_reducible first | exact HB.out | apply below_alloc | apply pw_below_drewN | apply below_drew1 | refine below_set ?_ GE132.out | refine below_set ?_ GE136.out) | exact HB.out)) hb); clear HO_5; clear BK132; clear BK136; clear HB; have HO_5 := n0_; have BK132 := n1_; have BK136 := n2_; have HB := n3_; clear n0_ n1_ n2_ n3_; (try clear hb); (try clear hb2); (try clear hk); (try clear hi)))
                            have n0_ := Aside0.mk (Kd.R_drew HO_5.out)
                            have n1_ := Aside0.mk (blk_drew BK132.out)
                            have n2_ := Aside0.mk (blk_drew BK136.out)
                            have n3_ := Aside0.mk (below_drew1 HB.out)
                            clear HO_5
                            clear BK132
                            clear BK136
                            clear HB
                            have HO_5 := n0_
                            have BK132 := n1_
                            have BK136 := n2_
                            have HB := n3_
                            clear n0_ n1_ n2_ n3_
                            refine start_ (n := 13) (S := fun w' => w'.cell? ⟨gb136, 0, none⟩ = some (.int .i64 x137000_1) ∧ w'.cell? ⟨gb136, 1, none⟩ = some (.int .i64 x137001_1) ∧ w'.cell? ⟨gb136, 2, none⟩ = some (.int .i64 x137002_1)) (ds := [11]) #[false, false, false, false, false, false, false, false, false, false, false, false, false] (by kernel_rfl) rfl rfl ⟨(blk_cell BK136.out 0).trans rfl, (blk_cell BK136.out 1).trans rfl, (blk_cell BK136.out 2).trans rfl⟩ (fun hHeld => ?_); refine with_tabW scan_All.tab5 scan_All.bits5 (fun HT_ HW_ => ?_)
                            generalize w47.drew = w48 at HO_5 BK132 BK136 HB hHeld ⊢
                            refine pure_ (i := 1) (N := some 33) (v := ?_) (a' := ?_) #[false, true, false, false, false, false, false, false, false, false, false, false, false] rfl rfl (any_of HT_.out (by kernel_rfl)) (fun _ _ _ h => h) (Or.inl ⟨by rfl, ?_⟩) ?_ ?_
                            rotate_left
                            · intro w'
                              go_simp
                              with_reducible rfl
                            rotate_left
                            · simp only [Act.put, List.setIfInBounds_toArray, List.set_cons_zero, List.set_cons_succ, i64_w, i32_w]
                              rfl
                            refine pure_ (i := 2) (N := some 34) (v := ?_) (a' := ?_) #[false, true, true, false, false, false, false, false, false, false, false, false, false] rfl rfl (any_of HT_.out (by kernel_rfl)) (fun _ _ _ h => h) (Or.inl ⟨by rfl, ?_⟩) ?_ ?_
                            rotate_left
                            · intro w'
                              go_simp
                              with_reducible rfl
                            rotate_left
                            · simp only [Act.put, List.setIfInBounds_toArray, List.set_cons_zero, List.set_cons_succ, i64_w, i32_w]
                              rfl
                            refine pure_ (i := 3) (N := some 35) (v := ?_) (a' := ?_) #[false, true, true, true, false, false, false, false, false, false, false, false, false] rfl rfl (any_of HT_.out (by kernel_rfl)) (fun _ _ _ h => h) (Or.inl ⟨by rfl, ?_⟩) ?_ ?_
                            rotate_left
                            · intro w'
                              go_simp
                              with_reducible rfl
                            rotate_left
                            · simp only [Act.put, List.setIfInBounds_toArray, List.set_cons_zero, List.set_cons_succ, i64_w, i32_w]
                              rfl
                            refine pure_ (i := 4) (N := some 36) (v := ?_) (a' := ?_) #[false, true, true, true, true, false, false, false, false, false, false, false, false] rfl rfl (any_of HT_.out (by kernel_rfl)) (fun _ _ _ h => h) (Or.inl ⟨by rfl, ?_⟩) ?_ ?_
                            rotate_left
                            · intro w'
                              go_simp
                              with_reducible rfl
                            rotate_left
                            · simp only [Act.put, List.setIfInBounds_toArray, List.set_cons_zero, List.set_cons_succ, i64_w, i32_w]
                              rfl
                            refine pure_ (i := 5) (N := some 37) (v := ?_) (a' := ?_) #[false, true, true, true, true, true, false, false, false, false, false, false, false] rfl rfl (any_of HT_.out (by kernel_rfl)) (fun _ _ _ h => h) (Or.inl ⟨by rfl, ?_⟩) ?_ ?_
                            rotate_left
                            · intro w'
                              go_simp
                              with_reducible rfl
                            rotate_left
                            · simp only [Act.put, List.setIfInBounds_toArray, List.set_cons_zero, List.set_cons_succ, i64_w, i32_w]
                              rfl
                            refine pure_ (i := 6) (N := some 38) (v := ?_) (a' := ?_) #[false, true, true, true, true, true, true, false, false, false, false, false, false] rfl rfl (any_of HT_.out (by kernel_rfl)) (fun _ _ _ h => h) (Or.inl ⟨by rfl, ?_⟩) ?_ ?_
                            rotate_left
                            · intro w'
                              go_simp
                              with_reducible rfl
                            rotate_left
                            · simp only [Act.put, List.setIfInBounds_toArray, List.set_cons_zero, List.set_cons_succ, i64_w, i32_w]
                              rfl
                            refine pure_ (i := 8) (N := some 40) (v := ?_) (a' := ?_) #[false, true, true, true, true, true, true, false, true, false, false, false, false] rfl rfl (any_of HT_.out (by kernel_rfl)) (fun _ _ _ h => h) (Or.inl ⟨by rfl, ?_⟩) ?_ ?_
                            rotate_left
                            · intro w'
                              go_simp
                              with_reducible rfl
                            rotate_left
                            · simp only [Act.put, List.setIfInBounds_toArray, List.set_cons_zero, List.set_cons_succ, i64_w, i32_w]
                              rfl
                            refine pure_ (i := 9) (N := some 41) (v := ?_) (a' := ?_) #[false, true, true, true, true, true, true, false, true, true, false, false, false] rfl rfl (any_of HT_.out (by kernel_rfl)) (fun _ _ _ h => h) (Or.inl ⟨by rfl, ?_⟩) ?_ ?_
                            rotate_left
                            · intro w'
                              go_simp
                              with_reducible rfl
                            rotate_left
                            · simp only [Act.put, List.setIfInBounds_toArray, List.set_cons_zero, List.set_cons_succ, i64_w, i32_w]
                              rfl
                            refine pure_ (i := 10) (N := some 42) (v := ?_) (a' := ?_) #[false, true, true, true, true, true, true, false, true, true, true, false, false] rfl rfl (any_of HT_.out (by kernel_rfl)) (fun _ _ _ h => h) (Or.inl ⟨by rfl, ?_⟩) ?_ ?_
                            rotate_left
                            · intro w'
                              go_simp
                              with_reducible rfl
                            rotate_left
                            · simp only [Act.put, List.setIfInBounds_toArray, List.set_cons_zero, List.set_cons_succ, i64_w, i32_w]
                              rfl
                            refine take_ (i := 0) (N := some 32) (v := ?_) (a' := ?_) #[true, true, true, true, true, true, true, false, true, true, true, false, false] rfl rfl (take_ofW HT_.out HW_.out (by kernel_rfl)) (fun _ _ _ h => h) (Or.inl ⟨by rfl, ?_⟩) hHeld ?_ ?_
                            rotate_left
                            · rintro w' ⟨s0, s1, s2⟩
                              go_simp
                              with_reducible rfl
                            rotate_left
                            · simp only [Act.put, List.setIfInBounds_toArray, List.set_cons_zero, List.set_cons_succ, i64_w, i32_w]
                              rfl
                            refine one_ (i := 7) (N := some 39) #[true, true, true, true, true, true, true, true, true, true, true, false, false] rfl rfl (one_of HT_.out (by kernel_rfl)) (by decide) (fun K hK => ?_)
                            refine goes_ Tryz.func39 (by kernel_rfl) rfl #[.agg #[.int .i64 x137000_1, .int .i64 x137001_1, .int .i64 x137002_1], .string (cutS a0 (x7_1 : Int).toNat ((ji34) : Int).toNat)] (by rfl) rfl rfl (by (try simp only [List.map_toArray, List.map_cons, List.map_nil]); first | done | (simp only [hji34]; rfl) | rfl | (simp only [List.length_drop, List.length_take]; rfl)) ?_
                            with_reducible refine (place_Advance.calls x137000_1 x137001_1 x137002_1 (cutS a0 (x7_1 : Int).toNat ((ji34) : Int).toNat) t139 t140 t141 _ A20.out).mono ?_
                            rintro e w49 ⟨rfl, hb⟩
                            refine ⟨_, rfl, ?_⟩
                            have n0_ := Aside0.mk (Kd.R_below (by (with_reducible repeat (first | apply Kd.R_alloc | apply Kd.R_drewN | apply Kd.R_drew)); exact HO_5.out) hb)
                            have n1_ := Aside0.mk (blk_below (g := gb132) (o := .cells #[.int .i64 x133000_1, .int .i64 x133001_1, .int .i64 x133002_1] 26 (0, 0)) (by (with_reducible repeat (first | refine blk_drewN ?_ _ | refine blk_drew ?_ | refine blk_alloc ?_ _)); exact BK132.out) hb)
                            have n2_ := Aside0.mk (blk_below (g := gb136) (o := .cells #[.int .i64 x137000_1, .int .i64 x137001_1, .int .i64 x137002_1] 26 (0, 0)) (by (with_reducible repeat (first | refine blk_drewN ?_ _ | refine blk_drew ?_ | refine blk_alloc ?_ _)); exact BK136.out) hb)
                            have n3_ := Aside0.mk (below_step (by repeat (first | (with_reducible first | exact HB.out | apply below_alloc | apply pw_below_drewN | apply below_drew1 | refine below_set ?_ GE132.out | refine below_set ?_ GE136.out) | exact HB.out)) hb)
                            clear HO_5
                            clear BK132
                            clear BK136
                            clear HB
                            have HO_5 := n0_
                            have BK132 := n1_
                            have BK136 := n2_
                            have HB := n3_
                            clear n0_ n1_ n2_ n3_
                            (try clear hb)
                            (try clear hb2)
                            (try clear hk)
                            (try clear hi)
                            refine hK.out _ _ ⟨(blk_cell BK136.out 0).trans rfl, (blk_cell BK136.out 1).trans rfl, (blk_cell BK136.out 2).trans rfl⟩ (fun hHeld => ?_)
                            clear hK K
                            refine norm_ (a' := ?_) ?_ ?_
                            rotate_left
                            · show Act.put _ (some 39) _ = _
                              simp only [Act.put, List.setIfInBounds_toArray, List.set_cons_zero, List.set_cons_succ, i64_w, i32_w]
                              rfl
                            refine last_ (i := 11) (N := none) #[true, true, true, true, true, true, true, true, true, true, true, true, false] rfl rfl (one_of HT_.out (by kernel_rfl)) (by decide) (fun K hK => ?_)
                            have hs50 : w49.cell? ⟨gb136, 0, none⟩ = some (.int .i64 x137000_1) := (blk_cell BK136.out 0).trans rfl
                            have hfs50 := blk_frozen BK136.out 0
                            have hns50_0 := NB132_136.out
                            have hms50_0 := NB136_132.out
                            have hs51 : w49.cell? ⟨gb136, 1, none⟩ = some (.int .i64 x137001_1) := (blk_cell BK136.out 1).trans rfl
                            have hfs51 := blk_frozen BK136.out 1
                            have hns51_0 := NB132_136.out
                            have hms51_0 := NB136_132.out
                            have hs52 : w49.cell? ⟨gb136, 2, none⟩ = some (.int .i64 x137002_1) := (blk_cell BK136.out 2).trans rfl
                            have hfs52 := blk_frozen BK136.out 2
                            have hns52_0 := NB132_136.out
                            have hms52_0 := NB136_132.out
                            refine skip_ (w1 := ?_) (by rfl) rfl ?_ ?_
                            rotate_left
                            · go_simp
                              rfl
                            refine hK.out _ _ ?_
                            clear hK K
                            refine pure_ (i := 12) (N := some 7) (v := ?_) (a' := ?_) #[true, true, true, true, true, true, true, true, true, true, true, true, true] rfl rfl (any_of HT_.out (by kernel_rfl)) (fun _ _ _ h => h) (Or.inl ⟨by rfl, ?_⟩) ?_ ?_
                            rotate_left
                            · intro w'
                              go_simp
                              with_reducible rfl
                            rotate_left
                            · simp only [Act.put, List.setIfInBounds_toArray, List.set_cons_zero, List.set_cons_succ, i64_w, i32_w]
                              rfl
                            refine done_ (done_of HT_.out (by kernel_rfl)) ?_
                            try go_wp2_with (first | ((with_reducible refine gate_callee (f := 40) rfl ?_); refine goesL_ (some 52) rfl rfl Tryz.func40 (by kernel_rfl) rfl #[.string a0, .int .i64 ji34] rfl (by (try simp only [List.map_toArray, List.map_cons, List.map_nil]); first | done | (simp only [hji34]; rfl) | rfl | (simp only [List.length_drop, List.length_take]; rfl)) ?_; (with_reducible refine (scan_one.calls k1 a0 ji34 t142 t143 t144 _ A32.out ?sideT).mono ?_); (case sideT => exact Clas.below hT (by repeat (first | (with_reducible first | exact HB.out | apply below_alloc | apply pw_below_drewN | apply below_drew1) | exact HB.out | refine below_set ?_ (Aside0.out (by assumption))))); rintro e w53 ⟨rfl, hb⟩; refine ⟨_, rfl, ?_⟩; have n0_ := Aside0.mk (Kd.R_below (by (with_reducible repeat (first | apply Kd.R_alloc | apply Kd.R_drewN | apply Kd.R_drew)); exact (Kd.R_mono (Kd.R_far (p := ⟨gb136, 2, none⟩) (Kd.R_far (p := ⟨gb136, 1, none⟩) (Kd.R_far (p := ⟨gb136, 0, none⟩) (Kd.R_types HO_5.out BK136.out (by decide)) (fun _ hk => hk.2) (.int .i64 t139)) (fun _ hk => hk.2) (.int .i64 t140)) (fun _ hk => hk.2) (.int .i64 t141)) (fun _ h_ => h_.1))) hb); have n1_ := Aside0.mk (blk_below (g := gb132) (o := .cells #[.int .i64 x133000_1, .int .i64 x133001_1, .int .i64 x133002_1] 26 (0, 0)) (by (with_reducible repeat (first | refine blk_drewN ?_ _ | refine blk_drew ?_ | refine blk_alloc ?_ _)); refine blk_far ?_ NB132_136.out _; (with_reducible repeat (first | refine blk_drewN ?_ _ | refine blk_drew ?_ | refine blk_alloc ?_ _)); refine blk_far ?_ NB132_136.out _; (with_reducible repeat (first | refine blk_drewN ?_ _ | refine blk_drew ?_ | refine blk_alloc ?_ _)); refine blk_far ?_ NB132_136.out _; (with_reducible repeat (first | refine blk_drewN ?_ _ | refine blk_drew ?_ | refine blk_alloc ?_ _)); exact BK132.out) hb); have n2_ := Aside0.mk (blk_below (g := gb136) (o := .cells #[.int .i64 t139, .int .i64 t140, .int .i64 t141] 26 (0, 0)) (by (with_reducible repeat (first | refine blk_drewN ?_ _ | refine blk_drew ?_ | refine blk_alloc ?_ _)); refine blk_put (cs := #[.int .i64 t139, .int .i64 t140, .int .i64 x137002_1]) ?_ 2 _ rfl; (with_reducible repeat (first | refine blk_drewN ?_ _ | refine blk_drew ?_ | refine blk_alloc ?_ _)); refine blk_put (cs := #[.int .i64 t139, .int .i64 x137001_1, .int .i64 x137002_1]) ?_ 1 _ rfl; (with_reducible repeat (first | refine blk_drewN ?_ _ | refine blk_drew ?_ | refine blk_alloc ?_ _)); refine blk_put (cs := #[.int .i64 x137000_1, .int .i64 x137001_1, .int .i64 x137002_1]) ?_ 0 _ rfl; (with_reducible repeat (first | refine blk_drewN ?_ _ | refine blk_drew ?_ | refine blk_alloc ?_ _)); exact BK136.out) hb); have n3_ := Aside0.mk (below_step (by repeat (first | (with_reducible first | exact HB.out | apply below_alloc | apply pw_below_drewN | apply below_drew1 | refine below_set ?_ GE132.out | refine below_set ?_ GE136.out) | exact HB.out)) hb); clear HO_5; clear BK132; clear BK136; clear HB; have HO_5 := n0_; have BK132 := n1_; have BK136 := n2_; have HB := n3_; clear n0_ n1_ n2_ n3_; (try clear hb); (try clear hb2); (try clear hk); (try clear hi)) | ((with_reducible refine gate_callee (f := 41) rfl ?_); refine goesL_ (some 73) rfl rfl Tryz.func41 (by kernel_rfl) rfl #[.string (cutS a0 ((ji34) : Int).toNat (t143 : Int).toNat), .string (⟨#[32, 9, 13]⟩ : ByteArray)] rfl (by (try simp only [List.map_toArray, List.map_cons, List.map_nil]); first | done | (simp only [hji34]; rfl) | rfl | (simp only [List.length_drop, List.length_take]; rfl)) ?_; (with_reducible refine (strings_TrimRight.calls (cutS a0 ((ji34) : Int).toNat (t143 : Int).toNat) (⟨#[32, 9, 13]⟩ : ByteArray) t148 _ A39.out).mono ?_); rintro e w54 ⟨rfl, hb⟩; refine ⟨_, rfl, ?_⟩; have n0_ := Aside0.mk (Kd.R_below (by (with_reducible repeat (first | apply Kd.R_alloc | apply Kd.R_drewN | apply Kd.R_drew)); exact HO_5.out) hb); have n1_ := Aside0.mk (blk_below (g := gb132) (o := .cells #[.int .i64 x133000_1, .int .i64 x133001_1, .int .i64 x133002_1] 26 (0, 0)) (by (with_reducible repeat (first | refine blk_drewN ?_ _ | refine blk_drew ?_ | refine blk_alloc ?_ _)); exact BK132.out) hb); have n2_ := Aside0.mk (blk_below (g := gb136) (o := .cells #[.int .i64 t139, .int .i64 t140, .int .i64 t141] 26 (0, 0)) (by (with_reducible repeat (first | refine blk_drewN ?_ _ | refine blk_drew ?_ | refine blk_alloc ?_ _)); exact BK136.out) hb); have n3_ := Aside0.mk (below_step (by repeat (first | (with_reducible first | exact HB.out | apply below_alloc | apply pw_below_drewN | apply below_drew1 | refine below_set ?_ GE132.out | refine below_set ?_ GE136.out) | exact HB.out)) hb); clear HO_5; clear BK132; clear BK136; clear HB; have HO_5 := n0_; have BK132 := n1_; have BK136 := n2_; have HB := n3_; clear n0_ n1_ n2_ n3_; (try clear hb); (try clear hb2); (try clear hk); (try clear hi); have hnb55 := NB136_132.out; have hnc55 := NB132_136.out; have hcz56_0 : w54.cell? ⟨gb136, 0, none⟩ = some (.int .i64 t139) := (blk_cell BK136.out 0).trans rfl; have hcz56_1 : w54.cell? ⟨gb136, 1, none⟩ = some (.int .i64 t140) := (blk_cell BK136.out 1).trans rfl; have hcz56_2 : w54.cell? ⟨gb136, 2, none⟩ = some (.int .i64 t141) := (blk_cell BK136.out 2).trans rfl; have hfz56_0 := blk_frozen BK136.out 0; have hfz56_1 := blk_frozen BK136.out 1; have hfz56_2 := blk_frozen BK136.out 2) | ((with_reducible refine gate_builtin (b := .append) (xs := #[.tmp 74, .tmp 80]) rfl ?_); at_builtin; refine Kd.R_append k48 (w0 := w) w.heap.size rfl (.tmp 74) (.tmp 80) 42 48 (.agg #[(.int .u8 0), (.string ⟨#[]⟩), (.int .i64 0), (.int .i64 0), (.int .i64 0), (.int .i64 0)]) 56 rfl Tryz.underlying42 info48 rfl (by decide) (by omega) u5 x5_1 (⟨t142, t148, (⟨t139, t140, t141⟩ : S26), t138⟩ : S48) [.int .u8 t142, .string t148, .int .i64 t139, .int .i64 t140, .int .i64 t141, .int .i64 t138] (fun _ => True) (fun _ => False) rfl rfl ?aP (fun _ hk => hk.elim) ?aF ?aO ?aB ?aS ?aL ?_; (case aP => exact k48_mkM _ _ _ (⟨t142, t148, (⟨t139, t140, t141⟩ : S26), t138⟩ : S48)); (case aB => exact (by repeat (first | (with_reducible first | exact HB.out | apply below_alloc | apply pw_below_drewN | apply below_drew1 | refine below_set ?_ GE132.out | refine below_set ?_ GE136.out) | exact HB.out))); (case aF => exact (fun _ _ => trivial)); (case aO => exact (by (with_reducible repeat (first | apply Kd.R_alloc | apply Kd.R_drewN | apply Kd.R_drew)); exact HO_5.out)); (case aS => exact (below_size (by repeat (first | (with_reducible first | exact HB.out | apply below_alloc | apply pw_below_drewN | apply below_drew1 | refine below_set ?_ GE132.out | refine below_set ?_ GE136.out) | exact HB.out)))); (case aL => have := LMc40.out; omega); intro v150 w57 ho hb hg hat; rw [← Ny149.out] at ho; have n0_ := Aside0.mk (blk_grown (g := gb132) (o := .cells #[.int .i64 x133000_1, .int .i64 x133001_1, .int .i64 x133002_1] 26 (0, 0)) (by (with_reducible repeat (first | refine blk_drewN ?_ _ | refine blk_drew ?_ | refine blk_alloc ?_ _)); exact BK132.out) hg (Kd.R_ne HO_5.out BK132.out (by decide))); have n1_ := Aside0.mk (blk_grown (g := gb136) (o := .cells #[.int .i64 t139, .int .i64 t140, .int .i64 t141] 26 (0, 0)) (by (with_reducible repeat (first | refine blk_drewN ?_ _ | refine blk_drew ?_ | refine blk_alloc ?_ _)); exact BK136.out) hg (Kd.R_ne HO_5.out BK136.out (by decide))); have n2_ := Aside0.mk (hb); have n3_ := Aside0.mk (ho); clear BK132; clear BK136; clear HB; clear HO_5; have BK132 := n0_; have BK136 := n1_; have HB := n2_; have HO151 := n3_; clear n0_ n1_ n2_ n3_; clear ho hb hg hat))
                            have n0_ := Aside0.mk (Kd.R_drew HO151.out)
                            have n1_ := Aside0.mk (blk_drew BK132.out)
                            have n2_ := Aside0.mk (blk_drew BK136.out)
                            have n3_ := Aside0.mk (below_drew1 HB.out)
                            clear HO151
                            clear BK132
                            clear BK136
                            clear HB
                            have HO151 := n0_
                            have BK132 := n1_
                            have BK136 := n2_
                            have HB := n3_
                            clear n0_ n1_ n2_ n3_
                            refine start_ (n := 9) (S := fun w' => w'.cell? ⟨gb136, 0, none⟩ = some (.int .i64 t139) ∧ w'.cell? ⟨gb136, 1, none⟩ = some (.int .i64 t140) ∧ w'.cell? ⟨gb136, 2, none⟩ = some (.int .i64 t141)) (ds := [7]) #[false, false, false, false, false, false, false, false, false] (by kernel_rfl) rfl rfl ⟨(blk_cell BK136.out 0).trans rfl, (blk_cell BK136.out 1).trans rfl, (blk_cell BK136.out 2).trans rfl⟩ (fun hHeld => ?_); refine with_tabW scan_All.tab15 scan_All.bits15 (fun HT_ HW_ => ?_)
                            generalize w57.drew = w58 at HO151 BK132 BK136 HB hHeld ⊢
                            refine pure_ (i := 1) (N := some 83) (v := ?_) (a' := ?_) #[false, true, false, false, false, false, false, false, false] rfl rfl (any_of HT_.out (by kernel_rfl)) (fun _ _ _ h => h) (Or.inl ⟨by rfl, ?_⟩) ?_ ?_
                            rotate_left
                            · intro w'
                              go_simp
                              with_reducible rfl
                            rotate_left
                            · simp only [Act.put, List.setIfInBounds_toArray, List.set_cons_zero, List.set_cons_succ, i64_w, i32_w]
                              rfl
                            refine pure_ (i := 2) (N := some 84) (v := ?_) (a' := ?_) #[false, true, true, false, false, false, false, false, false] rfl rfl (any_of HT_.out (by kernel_rfl)) (fun _ _ _ h => h) (Or.inl ⟨by rfl, ?_⟩) ?_ ?_
                            rotate_left
                            · intro w'
                              go_simp
                              with_reducible rfl
                            rotate_left
                            · simp only [Act.put, List.setIfInBounds_toArray, List.set_cons_zero, List.set_cons_succ, i64_w, i32_w]
                              rfl
                            refine pure_ (i := 3) (N := some 85) (v := ?_) (a' := ?_) #[false, true, true, true, false, false, false, false, false] rfl rfl (any_of HT_.out (by kernel_rfl)) (fun _ _ _ h => h) (Or.inl ⟨by rfl, ?_⟩) ?_ ?_
                            rotate_left
                            · intro w'
                              go_simp
                              with_reducible rfl
                            rotate_left
                            · simp only [Act.put, List.setIfInBounds_toArray, List.set_cons_zero, List.set_cons_succ, i64_w, i32_w]
                              rfl
                            refine pure_ (i := 4) (N := some 86) (v := ?_) (a' := ?_) #[false, true, true, true, true, false, false, false, false] rfl rfl (any_of HT_.out (by kernel_rfl)) (fun _ _ _ h => h) (Or.inl ⟨by rfl, ?_⟩) ?_ ?_
                            rotate_left
                            · intro w'
                              go_simp
                              with_reducible rfl
                            rotate_left
                            · simp only [Act.put, List.setIfInBounds_toArray, List.set_cons_zero, List.set_cons_succ, i64_w, i32_w]
                              rfl
                            refine pure_ (i := 6) (N := some 88) (v := ?_) (a' := ?_) #[false, true, true, true, true, false, true, false, false] rfl rfl (any_of HT_.out (by kernel_rfl)) (fun _ _ _ h => h) (Or.inl ⟨by rfl, ?_⟩) ?_ ?_
                            rotate_left
                            · intro w'
                              go_simp
                              with_reducible rfl
                            rotate_left
                            · simp only [Act.put, List.setIfInBounds_toArray, List.set_cons_zero, List.set_cons_succ, i64_w, i32_w]
                              rfl
                            refine take_ (i := 0) (N := some 82) (v := ?_) (a' := ?_) #[true, true, true, true, true, false, true, false, false] rfl rfl (take_ofW HT_.out HW_.out (by kernel_rfl)) (fun _ _ _ h => h) (Or.inl ⟨by rfl, ?_⟩) hHeld ?_ ?_
                            rotate_left
                            · rintro w' ⟨s0, s1, s2⟩
                              go_simp
                              with_reducible rfl
                            rotate_left
                            · simp only [Act.put, List.setIfInBounds_toArray, List.set_cons_zero, List.set_cons_succ, i64_w, i32_w]
                              rfl
                            refine one_ (i := 5) (N := some 87) #[true, true, true, true, true, true, true, false, false] rfl rfl (one_of HT_.out (by kernel_rfl)) (by decide) (fun K hK => ?_)
                            refine goes_ Tryz.func39 (by kernel_rfl) rfl #[.agg #[.int .i64 t139, .int .i64 t140, .int .i64 t141], .string (cutS a0 ((ji34) : Int).toNat (t143 : Int).toNat)] (by rfl) rfl rfl (by (try simp only [List.map_toArray, List.map_cons, List.map_nil]); first | done | (simp only [hji34]; rfl) | rfl | (simp only [List.length_drop, List.length_take]; rfl)) ?_
                            with_reducible refine (place_Advance.calls t139 t140 t141 (cutS a0 ((ji34) : Int).toNat (t143 : Int).toNat) t152 t153 t154 _ A44.out).mono ?_
                            rintro e w59 ⟨rfl, hb⟩
                            refine ⟨_, rfl, ?_⟩
                            have n0_ := Aside0.mk (Kd.R_below (by (with_reducible repeat (first | apply Kd.R_alloc | apply Kd.R_drewN | apply Kd.R_drew)); exact HO151.out) hb)
                            have n1_ := Aside0.mk (blk_below (g := gb132) (o := .cells #[.int .i64 x133000_1, .int .i64 x133001_1, .int .i64 x133002_1] 26 (0, 0)) (by (with_reducible repeat (first | refine blk_drewN ?_ _ | refine blk_drew ?_ | refine blk_alloc ?_ _)); exact BK132.out) hb)
                            have n2_ := Aside0.mk (blk_below (g := gb136) (o := .cells #[.int .i64 t139, .int .i64 t140, .int .i64 t141] 26 (0, 0)) (by (with_reducible repeat (first | refine blk_drewN ?_ _ | refine blk_drew ?_ | refine blk_alloc ?_ _)); exact BK136.out) hb)
                            have n3_ := Aside0.mk (below_step (by repeat (first | (with_reducible first | exact HB.out | apply below_alloc | apply pw_below_drewN | apply below_drew1 | refine below_set ?_ GE132.out | refine below_set ?_ GE136.out) | exact HB.out)) hb)
                            clear HO151
                            clear BK132
                            clear BK136
                            clear HB
                            have HO151 := n0_
                            have BK132 := n1_
                            have BK136 := n2_
                            have HB := n3_
                            clear n0_ n1_ n2_ n3_
                            (try clear hb)
                            (try clear hb2)
                            (try clear hk)
                            (try clear hi)
                            refine hK.out _ _ ⟨(blk_cell BK136.out 0).trans rfl, (blk_cell BK136.out 1).trans rfl, (blk_cell BK136.out 2).trans rfl⟩ (fun hHeld => ?_)
                            clear hK K
                            refine norm_ (a' := ?_) ?_ ?_
                            rotate_left
                            · show Act.put _ (some 87) _ = _
                              simp only [Act.put, List.setIfInBounds_toArray, List.set_cons_zero, List.set_cons_succ, i64_w, i32_w]
                              rfl
                            refine last_ (i := 7) (N := none) #[true, true, true, true, true, true, true, true, false] rfl rfl (one_of HT_.out (by kernel_rfl)) (by decide) (fun K hK => ?_)
                            have hs60 : w59.cell? ⟨gb136, 0, none⟩ = some (.int .i64 t139) := (blk_cell BK136.out 0).trans rfl
                            have hfs60 := blk_frozen BK136.out 0
                            have hns60_0 := NB132_136.out
                            have hms60_0 := NB136_132.out
                            have hs61 : w59.cell? ⟨gb136, 1, none⟩ = some (.int .i64 t140) := (blk_cell BK136.out 1).trans rfl
                            have hfs61 := blk_frozen BK136.out 1
                            have hns61_0 := NB132_136.out
                            have hms61_0 := NB136_132.out
                            have hs62 : w59.cell? ⟨gb136, 2, none⟩ = some (.int .i64 t141) := (blk_cell BK136.out 2).trans rfl
                            have hfs62 := blk_frozen BK136.out 2
                            have hns62_0 := NB132_136.out
                            have hms62_0 := NB136_132.out
                            refine skip_ (w1 := ?_) (by rfl) rfl ?_ ?_
                            rotate_left
                            · go_simp
                              rfl
                            refine hK.out _ _ ?_
                            clear hK K
                            refine pure_ (i := 8) (N := some 7) (v := ?_) (a' := ?_) #[true, true, true, true, true, true, true, true, true] rfl rfl (any_of HT_.out (by kernel_rfl)) (fun _ _ _ h => h) (Or.inl ⟨by rfl, ?_⟩) ?_ ?_
                            rotate_left
                            · intro w'
                              go_simp
                              with_reducible rfl
                            rotate_left
                            · simp only [Act.put, List.setIfInBounds_toArray, List.set_cons_zero, List.set_cons_succ, i64_w, i32_w]
                              rfl
                            refine done_ (done_of HT_.out (by kernel_rfl)) ?_
                            try go_wp2
                            go_roundg k1
                            case measure => have := HK1.out; omega
                            case rel => exact ⟨(y149), (t143), (x133000_1), (x133001_1), (x133002_1), (t152), (t153), (t154), (by first | rfl | (simp; done) | (simp [*]; done)), (by first | exact H' | (rw [hji34]; exact H')), ⟨by have := HK1.out; omega⟩, ⟨by (with_reducible repeat (first | apply Kd.R_alloc | apply Kd.R_drewN | apply Kd.R_drew)); exact Kd.R_mono (Kd.R_far (p := ⟨gb136, 2, none⟩) (Kd.R_far (p := ⟨gb136, 1, none⟩) (Kd.R_far (p := ⟨gb136, 0, none⟩) (Kd.R_types HO151.out BK136.out (by decide)) (fun _ hk => hk.2) (.int .i64 t152)) (fun _ hk => hk.2) (.int .i64 t153)) (fun _ hk => hk.2) (.int .i64 t154)) (fun _ hk => trivial)⟩, ⟨by (with_reducible repeat (first | refine blk_drewN ?_ _ | refine blk_drew ?_ | refine blk_alloc ?_ _)); refine blk_far ?_ NB132_136.out _; (with_reducible repeat (first | refine blk_drewN ?_ _ | refine blk_drew ?_ | refine blk_alloc ?_ _)); refine blk_far ?_ NB132_136.out _; (with_reducible repeat (first | refine blk_drewN ?_ _ | refine blk_drew ?_ | refine blk_alloc ?_ _)); refine blk_far ?_ NB132_136.out _; (with_reducible repeat (first | refine blk_drewN ?_ _ | refine blk_drew ?_ | refine blk_alloc ?_ _)); exact BK132.out⟩, ⟨by (with_reducible repeat (first | refine blk_drewN ?_ _ | refine blk_drew ?_ | refine blk_alloc ?_ _)); refine blk_put (cs := #[.int .i64 t152, .int .i64 t153, .int .i64 t141]) ?_ 2 _ rfl; (with_reducible repeat (first | refine blk_drewN ?_ _ | refine blk_drew ?_ | refine blk_alloc ?_ _)); refine blk_put (cs := #[.int .i64 t152, .int .i64 t140, .int .i64 t141]) ?_ 1 _ rfl; (with_reducible repeat (first | refine blk_drewN ?_ _ | refine blk_drew ?_ | refine blk_alloc ?_ _)); refine blk_put (cs := #[.int .i64 t139, .int .i64 t140, .int .i64 t141]) ?_ 0 _ rfl; (with_reducible repeat (first | refine blk_drewN ?_ _ | refine blk_drew ?_ | refine blk_alloc ?_ _)); exact BK136.out⟩, ⟨by repeat (first | (with_reducible first | exact HB.out | apply below_alloc | apply pw_below_drewN | apply below_drew1 | refine below_set ?_ GE132.out | refine below_set ?_ GE136.out) | exact HB.out)⟩⟩
                          · rw [if_neg c40] at H
                            exact absurd H (by simp)
                        · rw [if_neg c38] at H
                          have c38b0 : (t142 == 7) = false := beq_eq_false_iff_ne.mpr c38
                          have c38b1 : (t142 != 7) = true := bne_iff_ne.mpr c38
                          by_cases c63 : x5_1.length < 2513169434916
                          · rw [if_pos c63] at H
                            have LMc63 := Aside0.mk c63
                            clear c63
                            obtain ⟨y155, hy155⟩ : ∃ y_ : List (S48), y_ = (x5_1 ++ [(⟨t142, cutS a0 ((ji34) : Int).toNat (t143 : Int).toNat, (⟨t139, t140, t141⟩ : S26), t138⟩ : S48)]) := ⟨_, rfl⟩
                            replace H : ((place_Advance.f t139 t140 t141 (cutS a0 ((ji34) : Int).toNat (t143 : Int).toNat)).bind fun bt158 => (scan_All.l0 k1 a0 y155 t143 bt158.1 bt158.2.1 bt158.2.2)) = some (r1, r2, r3, r4, r5) := by first | (rw [hy155]; with_reducible exact H) | (have H2_ := (Option.bind_some _ _).symm.trans H; rw [hy155]; with_reducible exact H2_) | (have H2_ := (Option.bind_some _ _).symm.trans H; with_reducible exact H2_) | with_reducible exact H | (rw [hy155]; exact H) | exact H
                            have Ny155 := Aside0.mk hy155
                            clear hy155
                            have c64b0 := eq_true (of_decide_eq_true (by first | (with_reducible assumption) | assumption) : 0 ≤ (ji34))
                            have c65b0 := eq_true (of_decide_eq_true (by first | (with_reducible assumption) | assumption) : (ji34) ≤ t143)
                            have c66b0 := eq_true (of_decide_eq_true (by first | (with_reducible assumption) | assumption) : t143 ≤ (a0.size : Int))
                            replace H := Option.bind_eq_some_iff.mp H
                            obtain ⟨⟨t158, t159, t160⟩, A670, H⟩ := H
                            replace H : (scan_All.l0 k1 a0 y155 t143 t158 t159 t160) = some (r1, r2, r3, r4, r5) := H
                            have A67 := Aside0.mk A670
                            clear A670
                            have H' := Aside0.mk H
                            clear H
                            try go_wp2
                            have n0_ := Aside0.mk (Kd.R_drew HO_5.out)
                            have n1_ := Aside0.mk (blk_drew BK132.out)
                            have n2_ := Aside0.mk (blk_drew BK136.out)
                            have n3_ := Aside0.mk (below_drew1 HB.out)
                            clear HO_5
                            clear BK132
                            clear BK136
                            clear HB
                            have HO_5 := n0_
                            have BK132 := n1_
                            have BK136 := n2_
                            have HB := n3_
                            clear n0_ n1_ n2_ n3_
                            refine start_ (n := 11) (S := fun w' => True) (ds := []) #[false, false, false, false, false, false, false, false, false, false, false] (by kernel_rfl) rfl rfl trivial (fun hHeld => ?_); refine with_tabW scan_All.tab3 scan_All.bits3 (fun HT_ HW_ => ?_)
                            generalize wr.drew = w68 at HO_5 BK132 BK136 HB hHeld ⊢
                            refine pure_ (i := 0) (N := some 15) (v := ?_) (a' := ?_) #[true, false, false, false, false, false, false, false, false, false, false] rfl rfl (any_of HT_.out (by kernel_rfl)) (fun _ _ _ h => h) (Or.inl ⟨by rfl, ?_⟩) ?_ ?_
                            rotate_left
                            · intro w'
                              go_simp
                              with_reducible rfl
                            rotate_left
                            · simp only [Act.put, List.setIfInBounds_toArray, List.set_cons_zero, List.set_cons_succ, i64_w, i32_w]
                              rfl
                            refine pure_ (i := 1) (N := some 16) (v := ?_) (a' := ?_) #[true, true, false, false, false, false, false, false, false, false, false] rfl rfl (any_of HT_.out (by kernel_rfl)) (fun _ _ _ h => h) (Or.inl ⟨by rfl, ?_⟩) ?_ ?_
                            rotate_left
                            · intro w'
                              go_simp
                              with_reducible rfl
                            rotate_left
                            · simp only [Act.put, List.setIfInBounds_toArray, List.set_cons_zero, List.set_cons_succ, i64_w, i32_w]
                              rfl
                            refine pure_ (i := 2) (N := some 17) (v := ?_) (a' := ?_) #[true, true, true, false, false, false, false, false, false, false, false] rfl rfl (any_of HT_.out (by kernel_rfl)) (fun _ _ _ h => h) (Or.inl ⟨by rfl, ?_⟩) ?_ ?_
                            rotate_left
                            · intro w'
                              go_simp
                              with_reducible rfl
                            rotate_left
                            · simp only [Act.put, List.setIfInBounds_toArray, List.set_cons_zero, List.set_cons_succ, i64_w, i32_w]
                              rfl
                            refine pure_ (i := 3) (N := some 18) (v := ?_) (a' := ?_) #[true, true, true, true, false, false, false, false, false, false, false] rfl rfl (any_of HT_.out (by kernel_rfl)) (fun _ _ _ h => h) (Or.inl ⟨by rfl, ?_⟩) ?_ ?_
                            rotate_left
                            · intro w'
                              go_simp
                              with_reducible rfl
                            rotate_left
                            · simp only [Act.put, List.setIfInBounds_toArray, List.set_cons_zero, List.set_cons_succ, i64_w, i32_w]
                              rfl
                            refine pure_ (i := 4) (N := some 19) (v := ?_) (a' := ?_) #[true, true, true, true, true, false, false, false, false, false, false] rfl rfl (any_of HT_.out (by kernel_rfl)) (fun _ _ _ h => h) (Or.inl ⟨by rfl, ?_⟩) ?_ ?_
                            rotate_left
                            · intro w'
                              go_simp
                              with_reducible rfl
                            rotate_left
                            · simp only [Act.put, List.setIfInBounds_toArray, List.set_cons_zero, List.set_cons_succ, i64_w, i32_w]
                              rfl
                            refine pure_ (i := 5) (N := some 20) (v := ?_) (a' := ?_) #[true, true, true, true, true, true, false, false, false, false, false] rfl rfl (any_of HT_.out (by kernel_rfl)) (fun _ _ _ h => h) (Or.inl ⟨by rfl, ?_⟩) ?_ ?_
                            rotate_left
                            · intro w'
                              go_simp
                              with_reducible rfl
                            rotate_left
                            · simp only [Act.put, List.setIfInBounds_toArray, List.set_cons_zero, List.set_cons_succ, i64_w, i32_w]
                              rfl
                            refine pure_ (i := 6) (N := some 21) (v := ?_) (a' := ?_) #[true, true, true, true, true, true, true, false, false, false, false] rfl rfl (any_of HT_.out (by kernel_rfl)) (fun _ _ _ h => h) (Or.inl ⟨by rfl, ?_⟩) ?_ ?_
                            rotate_left
                            · intro w'
                              go_simp
                              with_reducible rfl
                            rotate_left
                            · simp only [Act.put, List.setIfInBounds_toArray, List.set_cons_zero, List.set_cons_succ, i64_w, i32_w]
                              rfl
                            refine one_ (i := 7) (N := some 22) #[true, true, true, true, true, true, true, true, false, false, false] rfl rfl (one_of HT_.out (by kernel_rfl)) (by decide) (fun K hK => ?_)
                            refine goes_ Tryz.func37 (by kernel_rfl) rfl #[.string (cutS a0 (x7_1 : Int).toNat a0.size), .string (⟨#[32, 9, 13, 10]⟩ : ByteArray)] (by rfl) rfl rfl (by (try simp only [List.map_toArray, List.map_cons, List.map_nil]); first | done | rfl | (simp only [List.length_drop, List.length_take]; rfl)) ?_
                            with_reducible refine (strings_TrimLeft.calls (cutS a0 (x7_1 : Int).toNat a0.size) (⟨#[32, 9, 13, 10]⟩ : ByteArray) t137 _ A12.out).mono ?_
                            rintro e w69 ⟨rfl, hb⟩
                            refine ⟨_, rfl, ?_⟩
                            have n0_ := Aside0.mk (Kd.R_below (by (with_reducible repeat (first | apply Kd.R_alloc | apply Kd.R_drewN | apply Kd.R_drew)); exact HO_5.out) hb)
                            have n1_ := Aside0.mk (blk_below (g := gb132) (o := .cells #[.int .i64 x133000_1, .int .i64 x133001_1, .int .i64 x133002_1] 26 (0, 0)) (by (with_reducible repeat (first | refine blk_drewN ?_ _ | refine blk_drew ?_ | refine blk_alloc ?_ _)); exact BK132.out) hb)
                            have n2_ := Aside0.mk (blk_below (g := gb136) (o := .cells #[.int .i64 x137000_1, .int .i64 x137001_1, .int .i64 x137002_1] 26 (0, 0)) (by (with_reducible repeat (first | refine blk_drewN ?_ _ | refine blk_drew ?_ | refine blk_alloc ?_ _)); exact BK136.out) hb)
                            have n3_ := Aside0.mk (below_step (by repeat (first | (with_reducible first | exact HB.out | apply below_alloc | apply pw_below_drewN | apply below_drew1 | refine below_set ?_ GE132.out | refine below_set ?_ GE136.out) | exact HB.out)) hb)
                            clear HO_5
                            clear BK132
                            clear BK136
                            clear HB
                            have HO_5 := n0_
                            have BK132 := n1_
                            have BK136 := n2_
                            have HB := n3_
                            clear n0_ n1_ n2_ n3_
                            (try clear hb)
                            (try clear hb2)
                            (try clear hk)
                            (try clear hi)
                            refine hK.out _ _ trivial (fun hHeld => ?_)
                            clear hK K
                            refine norm_ (a' := ?_) ?_ ?_
                            rotate_left
                            · show Act.put _ (some 22) _ = _
                              simp only [Act.put, List.setIfInBounds_toArray, List.set_cons_zero, List.set_cons_succ, i64_w, i32_w]
                              rfl
                            refine pure_ (i := 8) (N := some 23) (v := ?_) (a' := ?_) #[true, true, true, true, true, true, true, true, true, false, false] rfl rfl (any_of HT_.out (by kernel_rfl)) (fun _ _ _ h => h) (Or.inl ⟨by rfl, ?_⟩) ?_ ?_
                            rotate_left
                            · intro w'
                              go_simp
                              with_reducible rfl
                            rotate_left
                            · simp only [Act.put, List.setIfInBounds_toArray, List.set_cons_zero, List.set_cons_succ, i64_w, i32_w]
                              rfl
                            refine pure_ (i := 9) (N := some 24) (v := ?_) (a' := ?_) #[true, true, true, true, true, true, true, true, true, true, false] rfl rfl (any_of HT_.out (by kernel_rfl)) (fun _ _ _ h => h) (Or.inl ⟨by rfl, ?_⟩) ?_ ?_
                            rotate_left
                            · intro w'
                              go_simp
                              with_reducible rfl
                            rotate_left
                            · simp only [Act.put, List.setIfInBounds_toArray, List.set_cons_zero, List.set_cons_succ, i64_w, i32_w]
                              rfl
                            refine pure_ (i := 10) (N := some 8) (v := ?_) (a' := ?_) #[true, true, true, true, true, true, true, true, true, true, true] rfl rfl (any_of HT_.out (by kernel_rfl)) (fun _ _ _ h => h) (Or.inl ⟨by rfl, ?_⟩) ?_ ?_
                            rotate_left
                            · intro w'
                              go_simp
                              with_reducible rfl
                            rotate_left
                            · simp only [Act.put, List.setIfInBounds_toArray, List.set_cons_zero, List.set_cons_succ, i64_w, i32_w]
                              rfl
                            refine done_ (done_of HT_.out (by kernel_rfl)) ?_
                            try go_wp2_with (first | ((with_reducible refine gate_callee (f := 38) rfl ?_); refine goesL_ (some 31) rfl rfl Tryz.func38 (by kernel_rfl) rfl #[.string (cutS a0 (x7_1 : Int).toNat ((ji34) : Int).toNat), .string (⟨#[10]⟩ : ByteArray)] rfl (by (try simp only [List.map_toArray, List.map_cons, List.map_nil]); first | done | (simp only [hji34]; rfl) | rfl | (simp only [List.length_drop, List.length_take]; rfl)) ?_; (with_reducible refine (strings_Count.calls (cutS a0 (x7_1 : Int).toNat ((ji34) : Int).toNat) (⟨#[10]⟩ : ByteArray) t138 _ A16.out).mono ?_); rintro e w70 ⟨rfl, hb⟩; refine ⟨_, rfl, ?_⟩; have n0_ := Aside0.mk (Kd.R_below (by (with_reducible repeat (first | apply Kd.R_alloc | apply Kd.R_drewN | apply Kd.R_drew)); exact HO_5.out) hb); have n1_ := Aside0.mk (blk_below (g := gb132) (o := .cells #[.int .i64 x133000_1, .int .i64 x133001_1, .int .i64 x133002_1] 26 (0, 0)) (by (with_reducible repeat (first | refine blk_drewN ?_ _ | refine blk_drew ?_ | refine blk_alloc ?_ _)); exact BK132.out) hb); have n2_ := Aside0.mk (blk_below (g := gb136) (o := .cells #[.int .i64 x137000_1, .int .i64 x137001_1, .int .i64 x137002_1] 26 (0, 0)) (by (with_reducible repeat (first | refine blk_drewN ?_ _ | refine blk_drew ?_ | refine blk_alloc ?_ _)); exact BK136.out) hb); have n3_ := Aside0.mk (below_step (by repeat (first | (with_reducible first | exact HB.out | apply below_alloc | apply pw_below_drewN | apply below_drew1 | refine below_set ?_ GE132.out | refine below_set ?_ GE136.out) | exact HB.out)) hb); clear HO_5; clear BK132; clear BK136; clear HB; have HO_5 := n0_; have BK132 := n1_; have BK136 := n2_; have HB := n3_; clear n0_ n1_ n2_ n3_; (try clear hb); (try clear hb2); (try clear hk); (try clear hi)))
                            have n0_ := Aside0.mk (Kd.R_drew HO_5.out)
                            have n1_ := Aside0.mk (blk_drew BK132.out)
                            have n2_ := Aside0.mk (blk_drew BK136.out)
                            have n3_ := Aside0.mk (below_drew1 HB.out)
                            clear HO_5
                            clear BK132
                            clear BK136
                            clear HB
                            have HO_5 := n0_
                            have BK132 := n1_
                            have BK136 := n2_
                            have HB := n3_
                            clear n0_ n1_ n2_ n3_
                            refine start_ (n := 13) (S := fun w' => w'.cell? ⟨gb136, 0, none⟩ = some (.int .i64 x137000_1) ∧ w'.cell? ⟨gb136, 1, none⟩ = some (.int .i64 x137001_1) ∧ w'.cell? ⟨gb136, 2, none⟩ = some (.int .i64 x137002_1)) (ds := [11]) #[false, false, false, false, false, false, false, false, false, false, false, false, false] (by kernel_rfl) rfl rfl ⟨(blk_cell BK136.out 0).trans rfl, (blk_cell BK136.out 1).trans rfl, (blk_cell BK136.out 2).trans rfl⟩ (fun hHeld => ?_); refine with_tabW scan_All.tab5 scan_All.bits5 (fun HT_ HW_ => ?_)
                            generalize w70.drew = w71 at HO_5 BK132 BK136 HB hHeld ⊢
                            refine pure_ (i := 1) (N := some 33) (v := ?_) (a' := ?_) #[false, true, false, false, false, false, false, false, false, false, false, false, false] rfl rfl (any_of HT_.out (by kernel_rfl)) (fun _ _ _ h => h) (Or.inl ⟨by rfl, ?_⟩) ?_ ?_
                            rotate_left
                            · intro w'
                              go_simp
                              with_reducible rfl
                            rotate_left
                            · simp only [Act.put, List.setIfInBounds_toArray, List.set_cons_zero, List.set_cons_succ, i64_w, i32_w]
                              rfl
                            refine pure_ (i := 2) (N := some 34) (v := ?_) (a' := ?_) #[false, true, true, false, false, false, false, false, false, false, false, false, false] rfl rfl (any_of HT_.out (by kernel_rfl)) (fun _ _ _ h => h) (Or.inl ⟨by rfl, ?_⟩) ?_ ?_
                            rotate_left
                            · intro w'
                              go_simp
                              with_reducible rfl
                            rotate_left
                            · simp only [Act.put, List.setIfInBounds_toArray, List.set_cons_zero, List.set_cons_succ, i64_w, i32_w]
                              rfl
                            refine pure_ (i := 3) (N := some 35) (v := ?_) (a' := ?_) #[false, true, true, true, false, false, false, false, false, false, false, false, false] rfl rfl (any_of HT_.out (by kernel_rfl)) (fun _ _ _ h => h) (Or.inl ⟨by rfl, ?_⟩) ?_ ?_
                            rotate_left
                            · intro w'
                              go_simp
                              with_reducible rfl
                            rotate_left
                            · simp only [Act.put, List.setIfInBounds_toArray, List.set_cons_zero, List.set_cons_succ, i64_w, i32_w]
                              rfl
                            refine pure_ (i := 4) (N := some 36) (v := ?_) (a' := ?_) #[false, true, true, true, true, false, false, false, false, false, false, false, false] rfl rfl (any_of HT_.out (by kernel_rfl)) (fun _ _ _ h => h) (Or.inl ⟨by rfl, ?_⟩) ?_ ?_
                            rotate_left
                            · intro w'
                              go_simp
                              with_reducible rfl
                            rotate_left
                            · simp only [Act.put, List.setIfInBounds_toArray, List.set_cons_zero, List.set_cons_succ, i64_w, i32_w]
                              rfl
                            refine pure_ (i := 5) (N := some 37) (v := ?_) (a' := ?_) #[false, true, true, true, true, true, false, false, false, false, false, false, false] rfl rfl (any_of HT_.out (by kernel_rfl)) (fun _ _ _ h => h) (Or.inl ⟨by rfl, ?_⟩) ?_ ?_
                            rotate_left
                            · intro w'
                              go_simp
                              with_reducible rfl
                            rotate_left
                            · simp only [Act.put, List.setIfInBounds_toArray, List.set_cons_zero, List.set_cons_succ, i64_w, i32_w]
                              rfl
                            refine pure_ (i := 6) (N := some 38) (v := ?_) (a' := ?_) #[false, true, true, true, true, true, true, false, false, false, false, false, false] rfl rfl (any_of HT_.out (by kernel_rfl)) (fun _ _ _ h => h) (Or.inl ⟨by rfl, ?_⟩) ?_ ?_
                            rotate_left
                            · intro w'
                              go_simp
                              with_reducible rfl
                            rotate_left
                            · simp only [Act.put, List.setIfInBounds_toArray, List.set_cons_zero, List.set_cons_succ, i64_w, i32_w]
                              rfl
                            refine pure_ (i := 8) (N := some 40) (v := ?_) (a' := ?_) #[false, true, true, true, true, true, true, false, true, false, false, false, false] rfl rfl (any_of HT_.out (by kernel_rfl)) (fun _ _ _ h => h) (Or.inl ⟨by rfl, ?_⟩) ?_ ?_
                            rotate_left
                            · intro w'
                              go_simp
                              with_reducible rfl
                            rotate_left
                            · simp only [Act.put, List.setIfInBounds_toArray, List.set_cons_zero, List.set_cons_succ, i64_w, i32_w]
                              rfl
                            refine pure_ (i := 9) (N := some 41) (v := ?_) (a' := ?_) #[false, true, true, true, true, true, true, false, true, true, false, false, false] rfl rfl (any_of HT_.out (by kernel_rfl)) (fun _ _ _ h => h) (Or.inl ⟨by rfl, ?_⟩) ?_ ?_
                            rotate_left
                            · intro w'
                              go_simp
                              with_reducible rfl
                            rotate_left
                            · simp only [Act.put, List.setIfInBounds_toArray, List.set_cons_zero, List.set_cons_succ, i64_w, i32_w]
                              rfl
                            refine pure_ (i := 10) (N := some 42) (v := ?_) (a' := ?_) #[false, true, true, true, true, true, true, false, true, true, true, false, false] rfl rfl (any_of HT_.out (by kernel_rfl)) (fun _ _ _ h => h) (Or.inl ⟨by rfl, ?_⟩) ?_ ?_
                            rotate_left
                            · intro w'
                              go_simp
                              with_reducible rfl
                            rotate_left
                            · simp only [Act.put, List.setIfInBounds_toArray, List.set_cons_zero, List.set_cons_succ, i64_w, i32_w]
                              rfl
                            refine take_ (i := 0) (N := some 32) (v := ?_) (a' := ?_) #[true, true, true, true, true, true, true, false, true, true, true, false, false] rfl rfl (take_ofW HT_.out HW_.out (by kernel_rfl)) (fun _ _ _ h => h) (Or.inl ⟨by rfl, ?_⟩) hHeld ?_ ?_
                            rotate_left
                            · rintro w' ⟨s0, s1, s2⟩
                              go_simp
                              with_reducible rfl
                            rotate_left
                            · simp only [Act.put, List.setIfInBounds_toArray, List.set_cons_zero, List.set_cons_succ, i64_w, i32_w]
                              rfl
                            refine one_ (i := 7) (N := some 39) #[true, true, true, true, true, true, true, true, true, true, true, false, false] rfl rfl (one_of HT_.out (by kernel_rfl)) (by decide) (fun K hK => ?_)
                            refine goes_ Tryz.func39 (by kernel_rfl) rfl #[.agg #[.int .i64 x137000_1, .int .i64 x137001_1, .int .i64 x137002_1], .string (cutS a0 (x7_1 : Int).toNat ((ji34) : Int).toNat)] (by rfl) rfl rfl (by (try simp only [List.map_toArray, List.map_cons, List.map_nil]); first | done | (simp only [hji34]; rfl) | rfl | (simp only [List.length_drop, List.length_take]; rfl)) ?_
                            with_reducible refine (place_Advance.calls x137000_1 x137001_1 x137002_1 (cutS a0 (x7_1 : Int).toNat ((ji34) : Int).toNat) t139 t140 t141 _ A20.out).mono ?_
                            rintro e w72 ⟨rfl, hb⟩
                            refine ⟨_, rfl, ?_⟩
                            have n0_ := Aside0.mk (Kd.R_below (by (with_reducible repeat (first | apply Kd.R_alloc | apply Kd.R_drewN | apply Kd.R_drew)); exact HO_5.out) hb)
                            have n1_ := Aside0.mk (blk_below (g := gb132) (o := .cells #[.int .i64 x133000_1, .int .i64 x133001_1, .int .i64 x133002_1] 26 (0, 0)) (by (with_reducible repeat (first | refine blk_drewN ?_ _ | refine blk_drew ?_ | refine blk_alloc ?_ _)); exact BK132.out) hb)
                            have n2_ := Aside0.mk (blk_below (g := gb136) (o := .cells #[.int .i64 x137000_1, .int .i64 x137001_1, .int .i64 x137002_1] 26 (0, 0)) (by (with_reducible repeat (first | refine blk_drewN ?_ _ | refine blk_drew ?_ | refine blk_alloc ?_ _)); exact BK136.out) hb)
                            have n3_ := Aside0.mk (below_step (by repeat (first | (with_reducible first | exact HB.out | apply below_alloc | apply pw_below_drewN | apply below_drew1 | refine below_set ?_ GE132.out | refine below_set ?_ GE136.out) | exact HB.out)) hb)
                            clear HO_5
                            clear BK132
                            clear BK136
                            clear HB
                            have HO_5 := n0_
                            have BK132 := n1_
                            have BK136 := n2_
                            have HB := n3_
                            clear n0_ n1_ n2_ n3_
                            (try clear hb)
                            (try clear hb2)
                            (try clear hk)
                            (try clear hi)
                            refine hK.out _ _ ⟨(blk_cell BK136.out 0).trans rfl, (blk_cell BK136.out 1).trans rfl, (blk_cell BK136.out 2).trans rfl⟩ (fun hHeld => ?_)
                            clear hK K
                            refine norm_ (a' := ?_) ?_ ?_
                            rotate_left
                            · show Act.put _ (some 39) _ = _
                              simp only [Act.put, List.setIfInBounds_toArray, List.set_cons_zero, List.set_cons_succ, i64_w, i32_w]
                              rfl
                            refine last_ (i := 11) (N := none) #[true, true, true, true, true, true, true, true, true, true, true, true, false] rfl rfl (one_of HT_.out (by kernel_rfl)) (by decide) (fun K hK => ?_)
                            have hs73 : w72.cell? ⟨gb136, 0, none⟩ = some (.int .i64 x137000_1) := (blk_cell BK136.out 0).trans rfl
                            have hfs73 := blk_frozen BK136.out 0
                            have hns73_0 := NB132_136.out
                            have hms73_0 := NB136_132.out
                            have hs74 : w72.cell? ⟨gb136, 1, none⟩ = some (.int .i64 x137001_1) := (blk_cell BK136.out 1).trans rfl
                            have hfs74 := blk_frozen BK136.out 1
                            have hns74_0 := NB132_136.out
                            have hms74_0 := NB136_132.out
                            have hs75 : w72.cell? ⟨gb136, 2, none⟩ = some (.int .i64 x137002_1) := (blk_cell BK136.out 2).trans rfl
                            have hfs75 := blk_frozen BK136.out 2
                            have hns75_0 := NB132_136.out
                            have hms75_0 := NB136_132.out
                            refine skip_ (w1 := ?_) (by rfl) rfl ?_ ?_
                            rotate_left
                            · go_simp
                              rfl
                            refine hK.out _ _ ?_
                            clear hK K
                            refine pure_ (i := 12) (N := some 7) (v := ?_) (a' := ?_) #[true, true, true, true, true, true, true, true, true, true, true, true, true] rfl rfl (any_of HT_.out (by kernel_rfl)) (fun _ _ _ h => h) (Or.inl ⟨by rfl, ?_⟩) ?_ ?_
                            rotate_left
                            · intro w'
                              go_simp
                              with_reducible rfl
                            rotate_left
                            · simp only [Act.put, List.setIfInBounds_toArray, List.set_cons_zero, List.set_cons_succ, i64_w, i32_w]
                              rfl
                            refine done_ (done_of HT_.out (by kernel_rfl)) ?_
                            try go_wp2_with (first | ((with_reducible refine gate_callee (f := 40) rfl ?_); refine goesL_ (some 52) rfl rfl Tryz.func40 (by kernel_rfl) rfl #[.string a0, .int .i64 ji34] rfl (by (try simp only [List.map_toArray, List.map_cons, List.map_nil]); first | done | (simp only [hji34]; rfl) | rfl | (simp only [List.length_drop, List.length_take]; rfl)) ?_; (with_reducible refine (scan_one.calls k1 a0 ji34 t142 t143 t144 _ A32.out ?sideT).mono ?_); (case sideT => exact Clas.below hT (by repeat (first | (with_reducible first | exact HB.out | apply below_alloc | apply pw_below_drewN | apply below_drew1) | exact HB.out | refine below_set ?_ (Aside0.out (by assumption))))); rintro e w76 ⟨rfl, hb⟩; refine ⟨_, rfl, ?_⟩; have n0_ := Aside0.mk (Kd.R_below (by (with_reducible repeat (first | apply Kd.R_alloc | apply Kd.R_drewN | apply Kd.R_drew)); exact (Kd.R_mono (Kd.R_far (p := ⟨gb136, 2, none⟩) (Kd.R_far (p := ⟨gb136, 1, none⟩) (Kd.R_far (p := ⟨gb136, 0, none⟩) (Kd.R_types HO_5.out BK136.out (by decide)) (fun _ hk => hk.2) (.int .i64 t139)) (fun _ hk => hk.2) (.int .i64 t140)) (fun _ hk => hk.2) (.int .i64 t141)) (fun _ h_ => h_.1))) hb); have n1_ := Aside0.mk (blk_below (g := gb132) (o := .cells #[.int .i64 x133000_1, .int .i64 x133001_1, .int .i64 x133002_1] 26 (0, 0)) (by (with_reducible repeat (first | refine blk_drewN ?_ _ | refine blk_drew ?_ | refine blk_alloc ?_ _)); refine blk_far ?_ NB132_136.out _; (with_reducible repeat (first | refine blk_drewN ?_ _ | refine blk_drew ?_ | refine blk_alloc ?_ _)); refine blk_far ?_ NB132_136.out _; (with_reducible repeat (first | refine blk_drewN ?_ _ | refine blk_drew ?_ | refine blk_alloc ?_ _)); refine blk_far ?_ NB132_136.out _; (with_reducible repeat (first | refine blk_drewN ?_ _ | refine blk_drew ?_ | refine blk_alloc ?_ _)); exact BK132.out) hb); have n2_ := Aside0.mk (blk_below (g := gb136) (o := .cells #[.int .i64 t139, .int .i64 t140, .int .i64 t141] 26 (0, 0)) (by (with_reducible repeat (first | refine blk_drewN ?_ _ | refine blk_drew ?_ | refine blk_alloc ?_ _)); refine blk_put (cs := #[.int .i64 t139, .int .i64 t140, .int .i64 x137002_1]) ?_ 2 _ rfl; (with_reducible repeat (first | refine blk_drewN ?_ _ | refine blk_drew ?_ | refine blk_alloc ?_ _)); refine blk_put (cs := #[.int .i64 t139, .int .i64 x137001_1, .int .i64 x137002_1]) ?_ 1 _ rfl; (with_reducible repeat (first | refine blk_drewN ?_ _ | refine blk_drew ?_ | refine blk_alloc ?_ _)); refine blk_put (cs := #[.int .i64 x137000_1, .int .i64 x137001_1, .int .i64 x137002_1]) ?_ 0 _ rfl; (with_reducible repeat (first | refine blk_drewN ?_ _ | refine blk_drew ?_ | refine blk_alloc ?_ _)); exact BK136.out) hb); have n3_ := Aside0.mk (below_step (by repeat (first | (with_reducible first | exact HB.out | apply below_alloc | apply pw_below_drewN | apply below_drew1 | refine below_set ?_ GE132.out | refine below_set ?_ GE136.out) | exact HB.out)) hb); clear HO_5; clear BK132; clear BK136; clear HB; have HO_5 := n0_; have BK132 := n1_; have BK136 := n2_; have HB := n3_; clear n0_ n1_ n2_ n3_; (try clear hb); (try clear hb2); (try clear hk); (try clear hi); have hnb77 := NB136_132.out; have hnc77 := NB132_136.out; have hcz78_0 : w76.cell? ⟨gb136, 0, none⟩ = some (.int .i64 t139) := (blk_cell BK136.out 0).trans rfl; have hcz78_1 : w76.cell? ⟨gb136, 1, none⟩ = some (.int .i64 t140) := (blk_cell BK136.out 1).trans rfl; have hcz78_2 : w76.cell? ⟨gb136, 2, none⟩ = some (.int .i64 t141) := (blk_cell BK136.out 2).trans rfl; have hfz78_0 := blk_frozen BK136.out 0; have hfz78_1 := blk_frozen BK136.out 1; have hfz78_2 := blk_frozen BK136.out 2) | ((with_reducible refine gate_builtin (b := .append) (xs := #[.tmp 74, .tmp 80]) rfl ?_); at_builtin; refine Kd.R_append k48 (w0 := w) w.heap.size rfl (.tmp 74) (.tmp 80) 42 48 (.agg #[(.int .u8 0), (.string ⟨#[]⟩), (.int .i64 0), (.int .i64 0), (.int .i64 0), (.int .i64 0)]) 56 rfl Tryz.underlying42 info48 rfl (by decide) (by omega) u5 x5_1 (⟨t142, cutS a0 ((ji34) : Int).toNat (t143 : Int).toNat, (⟨t139, t140, t141⟩ : S26), t138⟩ : S48) [.int .u8 t142, .string (cutS a0 ((ji34) : Int).toNat (t143 : Int).toNat), .int .i64 t139, .int .i64 t140, .int .i64 t141, .int .i64 t138] (fun _ => True) (fun _ => False) rfl rfl ?aP (fun _ hk => hk.elim) ?aF ?aO ?aB ?aS ?aL ?_; (case aP => exact k48_mkM _ _ _ (⟨t142, cutS a0 ((ji34) : Int).toNat (t143 : Int).toNat, (⟨t139, t140, t141⟩ : S26), t138⟩ : S48)); (case aB => exact (by repeat (first | (with_reducible first | exact HB.out | apply below_alloc | apply pw_below_drewN | apply below_drew1 | refine below_set ?_ GE132.out | refine below_set ?_ GE136.out) | exact HB.out))); (case aF => exact (fun _ _ => trivial)); (case aO => exact (by (with_reducible repeat (first | apply Kd.R_alloc | apply Kd.R_drewN | apply Kd.R_drew)); exact HO_5.out)); (case aS => exact (below_size (by repeat (first | (with_reducible first | exact HB.out | apply below_alloc | apply pw_below_drewN | apply below_drew1 | refine below_set ?_ GE132.out | refine below_set ?_ GE136.out) | exact HB.out)))); (case aL => have := LMc63.out; omega); intro v156 w79 ho hb hg hat; rw [← Ny155.out] at ho; have n0_ := Aside0.mk (blk_grown (g := gb132) (o := .cells #[.int .i64 x133000_1, .int .i64 x133001_1, .int .i64 x133002_1] 26 (0, 0)) (by (with_reducible repeat (first | refine blk_drewN ?_ _ | refine blk_drew ?_ | refine blk_alloc ?_ _)); exact BK132.out) hg (Kd.R_ne HO_5.out BK132.out (by decide))); have n1_ := Aside0.mk (blk_grown (g := gb136) (o := .cells #[.int .i64 t139, .int .i64 t140, .int .i64 t141] 26 (0, 0)) (by (with_reducible repeat (first | refine blk_drewN ?_ _ | refine blk_drew ?_ | refine blk_alloc ?_ _)); exact BK136.out) hg (Kd.R_ne HO_5.out BK136.out (by decide))); have n2_ := Aside0.mk (hb); have n3_ := Aside0.mk (ho); clear BK132; clear BK136; clear HB; clear HO_5; have BK132 := n0_; have BK136 := n1_; have HB := n2_; have HO157 := n3_; clear n0_ n1_ n2_ n3_; clear ho hb hg hat))
                            have n0_ := Aside0.mk (Kd.R_drew HO157.out)
                            have n1_ := Aside0.mk (blk_drew BK132.out)
                            have n2_ := Aside0.mk (blk_drew BK136.out)
                            have n3_ := Aside0.mk (below_drew1 HB.out)
                            clear HO157
                            clear BK132
                            clear BK136
                            clear HB
                            have HO157 := n0_
                            have BK132 := n1_
                            have BK136 := n2_
                            have HB := n3_
                            clear n0_ n1_ n2_ n3_
                            refine start_ (n := 9) (S := fun w' => w'.cell? ⟨gb136, 0, none⟩ = some (.int .i64 t139) ∧ w'.cell? ⟨gb136, 1, none⟩ = some (.int .i64 t140) ∧ w'.cell? ⟨gb136, 2, none⟩ = some (.int .i64 t141)) (ds := [7]) #[false, false, false, false, false, false, false, false, false] (by kernel_rfl) rfl rfl ⟨(blk_cell BK136.out 0).trans rfl, (blk_cell BK136.out 1).trans rfl, (blk_cell BK136.out 2).trans rfl⟩ (fun hHeld => ?_); refine with_tabW scan_All.tab15 scan_All.bits15 (fun HT_ HW_ => ?_)
                            generalize w79.drew = w80 at HO157 BK132 BK136 HB hHeld ⊢
                            refine pure_ (i := 1) (N := some 83) (v := ?_) (a' := ?_) #[false, true, false, false, false, false, false, false, false] rfl rfl (any_of HT_.out (by kernel_rfl)) (fun _ _ _ h => h) (Or.inl ⟨by rfl, ?_⟩) ?_ ?_
                            rotate_left
                            · intro w'
                              go_simp
                              with_reducible rfl
                            rotate_left
                            · simp only [Act.put, List.setIfInBounds_toArray, List.set_cons_zero, List.set_cons_succ, i64_w, i32_w]
                              rfl
                            refine pure_ (i := 2) (N := some 84) (v := ?_) (a' := ?_) #[false, true, true, false, false, false, false, false, false] rfl rfl (any_of HT_.out (by kernel_rfl)) (fun _ _ _ h => h) (Or.inl ⟨by rfl, ?_⟩) ?_ ?_
                            rotate_left
                            · intro w'
                              go_simp
                              with_reducible rfl
                            rotate_left
                            · simp only [Act.put, List.setIfInBounds_toArray, List.set_cons_zero, List.set_cons_succ, i64_w, i32_w]
                              rfl
                            refine pure_ (i := 3) (N := some 85) (v := ?_) (a' := ?_) #[false, true, true, true, false, false, false, false, false] rfl rfl (any_of HT_.out (by kernel_rfl)) (fun _ _ _ h => h) (Or.inl ⟨by rfl, ?_⟩) ?_ ?_
                            rotate_left
                            · intro w'
                              go_simp
                              with_reducible rfl
                            rotate_left
                            · simp only [Act.put, List.setIfInBounds_toArray, List.set_cons_zero, List.set_cons_succ, i64_w, i32_w]
                              rfl
                            refine pure_ (i := 4) (N := some 86) (v := ?_) (a' := ?_) #[false, true, true, true, true, false, false, false, false] rfl rfl (any_of HT_.out (by kernel_rfl)) (fun _ _ _ h => h) (Or.inl ⟨by rfl, ?_⟩) ?_ ?_
                            rotate_left
                            · intro w'
                              go_simp
                              with_reducible rfl
                            rotate_left
                            · simp only [Act.put, List.setIfInBounds_toArray, List.set_cons_zero, List.set_cons_succ, i64_w, i32_w]
                              rfl
                            refine pure_ (i := 6) (N := some 88) (v := ?_) (a' := ?_) #[false, true, true, true, true, false, true, false, false] rfl rfl (any_of HT_.out (by kernel_rfl)) (fun _ _ _ h => h) (Or.inl ⟨by rfl, ?_⟩) ?_ ?_
                            rotate_left
                            · intro w'
                              go_simp
                              with_reducible rfl
                            rotate_left
                            · simp only [Act.put, List.setIfInBounds_toArray, List.set_cons_zero, List.set_cons_succ, i64_w, i32_w]
                              rfl
                            refine take_ (i := 0) (N := some 82) (v := ?_) (a' := ?_) #[true, true, true, true, true, false, true, false, false] rfl rfl (take_ofW HT_.out HW_.out (by kernel_rfl)) (fun _ _ _ h => h) (Or.inl ⟨by rfl, ?_⟩) hHeld ?_ ?_
                            rotate_left
                            · rintro w' ⟨s0, s1, s2⟩
                              go_simp
                              with_reducible rfl
                            rotate_left
                            · simp only [Act.put, List.setIfInBounds_toArray, List.set_cons_zero, List.set_cons_succ, i64_w, i32_w]
                              rfl
                            refine one_ (i := 5) (N := some 87) #[true, true, true, true, true, true, true, false, false] rfl rfl (one_of HT_.out (by kernel_rfl)) (by decide) (fun K hK => ?_)
                            refine goes_ Tryz.func39 (by kernel_rfl) rfl #[.agg #[.int .i64 t139, .int .i64 t140, .int .i64 t141], .string (cutS a0 ((ji34) : Int).toNat (t143 : Int).toNat)] (by rfl) rfl rfl (by (try simp only [List.map_toArray, List.map_cons, List.map_nil]); first | done | (simp only [hji34]; rfl) | rfl | (simp only [List.length_drop, List.length_take]; rfl)) ?_
                            with_reducible refine (place_Advance.calls t139 t140 t141 (cutS a0 ((ji34) : Int).toNat (t143 : Int).toNat) t158 t159 t160 _ A67.out).mono ?_
                            rintro e w81 ⟨rfl, hb⟩
                            refine ⟨_, rfl, ?_⟩
                            have n0_ := Aside0.mk (Kd.R_below (by (with_reducible repeat (first | apply Kd.R_alloc | apply Kd.R_drewN | apply Kd.R_drew)); exact HO157.out) hb)
                            have n1_ := Aside0.mk (blk_below (g := gb132) (o := .cells #[.int .i64 x133000_1, .int .i64 x133001_1, .int .i64 x133002_1] 26 (0, 0)) (by (with_reducible repeat (first | refine blk_drewN ?_ _ | refine blk_drew ?_ | refine blk_alloc ?_ _)); exact BK132.out) hb)
                            have n2_ := Aside0.mk (blk_below (g := gb136) (o := .cells #[.int .i64 t139, .int .i64 t140, .int .i64 t141] 26 (0, 0)) (by (with_reducible repeat (first | refine blk_drewN ?_ _ | refine blk_drew ?_ | refine blk_alloc ?_ _)); exact BK136.out) hb)
                            have n3_ := Aside0.mk (below_step (by repeat (first | (with_reducible first | exact HB.out | apply below_alloc | apply pw_below_drewN | apply below_drew1 | refine below_set ?_ GE132.out | refine below_set ?_ GE136.out) | exact HB.out)) hb)
                            clear HO157
                            clear BK132
                            clear BK136
                            clear HB
                            have HO157 := n0_
                            have BK132 := n1_
                            have BK136 := n2_
                            have HB := n3_
                            clear n0_ n1_ n2_ n3_
                            (try clear hb)
                            (try clear hb2)
                            (try clear hk)
                            (try clear hi)
                            refine hK.out _ _ ⟨(blk_cell BK136.out 0).trans rfl, (blk_cell BK136.out 1).trans rfl, (blk_cell BK136.out 2).trans rfl⟩ (fun hHeld => ?_)
                            clear hK K
                            refine norm_ (a' := ?_) ?_ ?_
                            rotate_left
                            · show Act.put _ (some 87) _ = _
                              simp only [Act.put, List.setIfInBounds_toArray, List.set_cons_zero, List.set_cons_succ, i64_w, i32_w]
                              rfl
                            refine last_ (i := 7) (N := none) #[true, true, true, true, true, true, true, true, false] rfl rfl (one_of HT_.out (by kernel_rfl)) (by decide) (fun K hK => ?_)
                            have hs82 : w81.cell? ⟨gb136, 0, none⟩ = some (.int .i64 t139) := (blk_cell BK136.out 0).trans rfl
                            have hfs82 := blk_frozen BK136.out 0
                            have hns82_0 := NB132_136.out
                            have hms82_0 := NB136_132.out
                            have hs83 : w81.cell? ⟨gb136, 1, none⟩ = some (.int .i64 t140) := (blk_cell BK136.out 1).trans rfl
                            have hfs83 := blk_frozen BK136.out 1
                            have hns83_0 := NB132_136.out
                            have hms83_0 := NB136_132.out
                            have hs84 : w81.cell? ⟨gb136, 2, none⟩ = some (.int .i64 t141) := (blk_cell BK136.out 2).trans rfl
                            have hfs84 := blk_frozen BK136.out 2
                            have hns84_0 := NB132_136.out
                            have hms84_0 := NB136_132.out
                            refine skip_ (w1 := ?_) (by rfl) rfl ?_ ?_
                            rotate_left
                            · go_simp
                              rfl
                            refine hK.out _ _ ?_
                            clear hK K
                            refine pure_ (i := 8) (N := some 7) (v := ?_) (a' := ?_) #[true, true, true, true, true, true, true, true, true] rfl rfl (any_of HT_.out (by kernel_rfl)) (fun _ _ _ h => h) (Or.inl ⟨by rfl, ?_⟩) ?_ ?_
                            rotate_left
                            · intro w'
                              go_simp
                              with_reducible rfl
                            rotate_left
                            · simp only [Act.put, List.setIfInBounds_toArray, List.set_cons_zero, List.set_cons_succ, i64_w, i32_w]
                              rfl
                            refine done_ (done_of HT_.out (by kernel_rfl)) ?_
                            try go_wp2
                            go_roundg k1
                            case measure => have := HK1.out; omega
                            case rel => exact ⟨(y155), (t143), (x133000_1), (x133001_1), (x133002_1), (t158), (t159), (t160), (by first | rfl | (simp; done) | (simp [*]; done)), (by first | exact H' | (rw [hji34]; exact H')), ⟨by have := HK1.out; omega⟩, ⟨by (with_reducible repeat (first | apply Kd.R_alloc | apply Kd.R_drewN | apply Kd.R_drew)); exact Kd.R_mono (Kd.R_far (p := ⟨gb136, 2, none⟩) (Kd.R_far (p := ⟨gb136, 1, none⟩) (Kd.R_far (p := ⟨gb136, 0, none⟩) (Kd.R_types HO157.out BK136.out (by decide)) (fun _ hk => hk.2) (.int .i64 t158)) (fun _ hk => hk.2) (.int .i64 t159)) (fun _ hk => hk.2) (.int .i64 t160)) (fun _ hk => trivial)⟩, ⟨by (with_reducible repeat (first | refine blk_drewN ?_ _ | refine blk_drew ?_ | refine blk_alloc ?_ _)); refine blk_far ?_ NB132_136.out _; (with_reducible repeat (first | refine blk_drewN ?_ _ | refine blk_drew ?_ | refine blk_alloc ?_ _)); refine blk_far ?_ NB132_136.out _; (with_reducible repeat (first | refine blk_drewN ?_ _ | refine blk_drew ?_ | refine blk_alloc ?_ _)); refine blk_far ?_ NB132_136.out _; (with_reducible repeat (first | refine blk_drewN ?_ _ | refine blk_drew ?_ | refine blk_alloc ?_ _)); exact BK132.out⟩, ⟨by (with_reducible repeat (first | refine blk_drewN ?_ _ | refine blk_drew ?_ | refine blk_alloc ?_ _)); refine blk_put (cs := #[.int .i64 t158, .int .i64 t159, .int .i64 t141]) ?_ 2 _ rfl; (with_reducible repeat (first | refine blk_drewN ?_ _ | refine blk_drew ?_ | refine blk_alloc ?_ _)); refine blk_put (cs := #[.int .i64 t158, .int .i64 t140, .int .i64 t141]) ?_ 1 _ rfl; (with_reducible repeat (first | refine blk_drewN ?_ _ | refine blk_drew ?_ | refine blk_alloc ?_ _)); refine blk_put (cs := #[.int .i64 t139, .int .i64 t140, .int .i64 t141]) ?_ 0 _ rfl; (with_reducible repeat (first | refine blk_drewN ?_ _ | refine blk_drew ?_ | refine blk_alloc ?_ _)); exact BK136.out⟩, ⟨by repeat (first | (with_reducible first | exact HB.out | apply below_alloc | apply pw_below_drewN | apply below_drew1 | refine below_set ?_ GE132.out | refine below_set ?_ GE136.out) | exact HB.out)⟩⟩
                          · rw [if_neg c63] at H
                            exact absurd H (by simp)
                      · rw [if_neg c37] at H
                        exact absurd H (by simp)
                    · rw [if_neg c36] at H
                      exact absurd H (by simp)
                  · rw [if_neg c35] at H
                    exact absurd H (by simp)
                · rw [if_neg c33] at H
                  have c33b0 : (t144 == 0) = false := beq_eq_false_iff_ne.mpr c33
                  have c33b1 : (t144 != 0) = true := bne_iff_ne.mpr c33
                  obtain ⟨ji85, hji85⟩ : ∃ j_ : Int, (wrap64 (x7_1 + (wrap64 (((cutS a0 (x7_1 : Int).toNat a0.size).size : Int) - (t137.size : Int))))) = j_ := ⟨_, rfl⟩
                  replace H : (if 0 ≤ (ji85) then (if (ji85) ≤ t143 then (if t143 ≤ (a0.size : Int) then ((place_Advance.f t139 t140 t141 (cutS a0 ((ji85) : Int).toNat (t143 : Int).toNat)).bind fun bt145 => (some (x5_1, t144, bt145.1, bt145.2.1, bt145.2.2))) else (none)) else (none)) else (none)) = some (r1, r2, r3, r4, r5) := by first | (rw [hji85] at H; exact H) | (simp only [hji85] at H ⊢; exact H)
                  (try rw [hji85] at c14b0)
                  (try rw [hji85] at c14b1)
                  (try rw [hji85] at c14)
                  (try rw [hji85] at c15b0)
                  (try rw [hji85] at c15b1)
                  (try rw [hji85] at c15)
                  (try rw [hji85] at c21b0)
                  (try rw [hji85] at c21b1)
                  (try rw [hji85] at A12)
                  (try rw [hji85] at A16)
                  (try rw [hji85] at A20)
                  (try rw [hji85] at A32)
                  have hji85w : (IntKind.i64.wrap (x7_1 + (wrap64 (((cutS a0 (x7_1 : Int).toNat a0.size).size : Int) - (t137.size : Int))))) = ji85 := (i64_w _).trans hji85
                  by_cases c86 : 0 ≤ (ji85)
                  · rw [if_pos c86] at H
                    have c86b0 := eq_true c86
                    have c86b1 : decide (0 ≤ (ji85)) = true := decide_eq_true c86
                    clear c86
                    by_cases c87 : (ji85) ≤ t143
                    · rw [if_pos c87] at H
                      have c87b0 := eq_true c87
                      have c87b1 : decide ((ji85) ≤ t143) = true := decide_eq_true c87
                      clear c87
                      by_cases c88 : t143 ≤ (a0.size : Int)
                      · rw [if_pos c88] at H
                        have c88b0 := eq_true c88
                        have c88b1 : decide (t143 ≤ (a0.size : Int)) = true := decide_eq_true c88
                        clear c88
                        replace H := Option.bind_eq_some_iff.mp H
                        obtain ⟨⟨t145, t146, t147⟩, A890, H⟩ := H
                        replace H : (some (x5_1, t144, t145, t146, t147)) = some (r1, r2, r3, r4, r5) := H
                        have A89 := Aside0.mk A890
                        clear A890
                        simp only [Option.some.injEq, Prod.mk.injEq] at H
                        obtain ⟨rfl, rfl, rfl, rfl, rfl⟩ := H
                        try go_wp2
                        have n0_ := Aside0.mk (Kd.R_drew HO_5.out)
                        have n1_ := Aside0.mk (blk_drew BK132.out)
                        have n2_ := Aside0.mk (blk_drew BK136.out)
                        have n3_ := Aside0.mk (below_drew1 HB.out)
                        clear HO_5
                        clear BK132
                        clear BK136
                        clear HB
                        have HO_5 := n0_
                        have BK132 := n1_
                        have BK136 := n2_
                        have HB := n3_
                        clear n0_ n1_ n2_ n3_
                        refine start_ (n := 11) (S := fun w' => True) (ds := []) #[false, false, false, false, false, false, false, false, false, false, false] (by kernel_rfl) rfl rfl trivial (fun hHeld => ?_); refine with_tabW scan_All.tab3 scan_All.bits3 (fun HT_ HW_ => ?_)
                        generalize wr.drew = w90 at HO_5 BK132 BK136 HB hHeld ⊢
                        refine pure_ (i := 0) (N := some 15) (v := ?_) (a' := ?_) #[true, false, false, false, false, false, false, false, false, false, false] rfl rfl (any_of HT_.out (by kernel_rfl)) (fun _ _ _ h => h) (Or.inl ⟨by rfl, ?_⟩) ?_ ?_
                        rotate_left
                        · intro w'
                          go_simp
                          with_reducible rfl
                        rotate_left
                        · simp only [Act.put, List.setIfInBounds_toArray, List.set_cons_zero, List.set_cons_succ, i64_w, i32_w]
                          rfl
                        refine pure_ (i := 1) (N := some 16) (v := ?_) (a' := ?_) #[true, true, false, false, false, false, false, false, false, false, false] rfl rfl (any_of HT_.out (by kernel_rfl)) (fun _ _ _ h => h) (Or.inl ⟨by rfl, ?_⟩) ?_ ?_
                        rotate_left
                        · intro w'
                          go_simp
                          with_reducible rfl
                        rotate_left
                        · simp only [Act.put, List.setIfInBounds_toArray, List.set_cons_zero, List.set_cons_succ, i64_w, i32_w]
                          rfl
                        refine pure_ (i := 2) (N := some 17) (v := ?_) (a' := ?_) #[true, true, true, false, false, false, false, false, false, false, false] rfl rfl (any_of HT_.out (by kernel_rfl)) (fun _ _ _ h => h) (Or.inl ⟨by rfl, ?_⟩) ?_ ?_
                        rotate_left
                        · intro w'
                          go_simp
                          with_reducible rfl
                        rotate_left
                        · simp only [Act.put, List.setIfInBounds_toArray, List.set_cons_zero, List.set_cons_succ, i64_w, i32_w]
                          rfl
                        refine pure_ (i := 3) (N := some 18) (v := ?_) (a' := ?_) #[true, true, true, true, false, false, false, false, false, false, false] rfl rfl (any_of HT_.out (by kernel_rfl)) (fun _ _ _ h => h) (Or.inl ⟨by rfl, ?_⟩) ?_ ?_
                        rotate_left
                        · intro w'
                          go_simp
                          with_reducible rfl
                        rotate_left
                        · simp only [Act.put, List.setIfInBounds_toArray, List.set_cons_zero, List.set_cons_succ, i64_w, i32_w]
                          rfl
                        refine pure_ (i := 4) (N := some 19) (v := ?_) (a' := ?_) #[true, true, true, true, true, false, false, false, false, false, false] rfl rfl (any_of HT_.out (by kernel_rfl)) (fun _ _ _ h => h) (Or.inl ⟨by rfl, ?_⟩) ?_ ?_
                        rotate_left
                        · intro w'
                          go_simp
                          with_reducible rfl
                        rotate_left
                        · simp only [Act.put, List.setIfInBounds_toArray, List.set_cons_zero, List.set_cons_succ, i64_w, i32_w]
                          rfl
                        refine pure_ (i := 5) (N := some 20) (v := ?_) (a' := ?_) #[true, true, true, true, true, true, false, false, false, false, false] rfl rfl (any_of HT_.out (by kernel_rfl)) (fun _ _ _ h => h) (Or.inl ⟨by rfl, ?_⟩) ?_ ?_
                        rotate_left
                        · intro w'
                          go_simp
                          with_reducible rfl
                        rotate_left
                        · simp only [Act.put, List.setIfInBounds_toArray, List.set_cons_zero, List.set_cons_succ, i64_w, i32_w]
                          rfl
                        refine pure_ (i := 6) (N := some 21) (v := ?_) (a' := ?_) #[true, true, true, true, true, true, true, false, false, false, false] rfl rfl (any_of HT_.out (by kernel_rfl)) (fun _ _ _ h => h) (Or.inl ⟨by rfl, ?_⟩) ?_ ?_
                        rotate_left
                        · intro w'
                          go_simp
                          with_reducible rfl
                        rotate_left
                        · simp only [Act.put, List.setIfInBounds_toArray, List.set_cons_zero, List.set_cons_succ, i64_w, i32_w]
                          rfl
                        refine one_ (i := 7) (N := some 22) #[true, true, true, true, true, true, true, true, false, false, false] rfl rfl (one_of HT_.out (by kernel_rfl)) (by decide) (fun K hK => ?_)
                        refine goes_ Tryz.func37 (by kernel_rfl) rfl #[.string (cutS a0 (x7_1 : Int).toNat a0.size), .string (⟨#[32, 9, 13, 10]⟩ : ByteArray)] (by rfl) rfl rfl (by (try simp only [List.map_toArray, List.map_cons, List.map_nil]); first | done | rfl | (simp only [List.length_drop, List.length_take]; rfl)) ?_
                        with_reducible refine (strings_TrimLeft.calls (cutS a0 (x7_1 : Int).toNat a0.size) (⟨#[32, 9, 13, 10]⟩ : ByteArray) t137 _ A12.out).mono ?_
                        rintro e w91 ⟨rfl, hb⟩
                        refine ⟨_, rfl, ?_⟩
                        have n0_ := Aside0.mk (Kd.R_below (by (with_reducible repeat (first | apply Kd.R_alloc | apply Kd.R_drewN | apply Kd.R_drew)); exact HO_5.out) hb)
                        have n1_ := Aside0.mk (blk_below (g := gb132) (o := .cells #[.int .i64 x133000_1, .int .i64 x133001_1, .int .i64 x133002_1] 26 (0, 0)) (by (with_reducible repeat (first | refine blk_drewN ?_ _ | refine blk_drew ?_ | refine blk_alloc ?_ _)); exact BK132.out) hb)
                        have n2_ := Aside0.mk (blk_below (g := gb136) (o := .cells #[.int .i64 x137000_1, .int .i64 x137001_1, .int .i64 x137002_1] 26 (0, 0)) (by (with_reducible repeat (first | refine blk_drewN ?_ _ | refine blk_drew ?_ | refine blk_alloc ?_ _)); exact BK136.out) hb)
                        have n3_ := Aside0.mk (below_step (by repeat (first | (with_reducible first | exact HB.out | apply below_alloc | apply pw_below_drewN | apply below_drew1 | refine below_set ?_ GE132.out | refine below_set ?_ GE136.out) | exact HB.out)) hb)
                        clear HO_5
                        clear BK132
                        clear BK136
                        clear HB
                        have HO_5 := n0_
                        have BK132 := n1_
                        have BK136 := n2_
                        have HB := n3_
                        clear n0_ n1_ n2_ n3_
                        (try clear hb)
                        (try clear hb2)
                        (try clear hk)
                        (try clear hi)
                        refine hK.out _ _ trivial (fun hHeld => ?_)
                        clear hK K
                        refine norm_ (a' := ?_) ?_ ?_
                        rotate_left
                        · show Act.put _ (some 22) _ = _
                          simp only [Act.put, List.setIfInBounds_toArray, List.set_cons_zero, List.set_cons_succ, i64_w, i32_w]
                          rfl
                        refine pure_ (i := 8) (N := some 23) (v := ?_) (a' := ?_) #[true, true, true, true, true, true, true, true, true, false, false] rfl rfl (any_of HT_.out (by kernel_rfl)) (fun _ _ _ h => h) (Or.inl ⟨by rfl, ?_⟩) ?_ ?_
                        rotate_left
                        · intro w'
                          go_simp
                          with_reducible rfl
                        rotate_left
                        · simp only [Act.put, List.setIfInBounds_toArray, List.set_cons_zero, List.set_cons_succ, i64_w, i32_w]
                          rfl
                        refine pure_ (i := 9) (N := some 24) (v := ?_) (a' := ?_) #[true, true, true, true, true, true, true, true, true, true, false] rfl rfl (any_of HT_.out (by kernel_rfl)) (fun _ _ _ h => h) (Or.inl ⟨by rfl, ?_⟩) ?_ ?_
                        rotate_left
                        · intro w'
                          go_simp
                          with_reducible rfl
                        rotate_left
                        · simp only [Act.put, List.setIfInBounds_toArray, List.set_cons_zero, List.set_cons_succ, i64_w, i32_w]
                          rfl
                        refine pure_ (i := 10) (N := some 8) (v := ?_) (a' := ?_) #[true, true, true, true, true, true, true, true, true, true, true] rfl rfl (any_of HT_.out (by kernel_rfl)) (fun _ _ _ h => h) (Or.inl ⟨by rfl, ?_⟩) ?_ ?_
                        rotate_left
                        · intro w'
                          go_simp
                          with_reducible rfl
                        rotate_left
                        · simp only [Act.put, List.setIfInBounds_toArray, List.set_cons_zero, List.set_cons_succ, i64_w, i32_w]
                          rfl
                        refine done_ (done_of HT_.out (by kernel_rfl)) ?_
                        try go_wp2_with (first | ((with_reducible refine gate_callee (f := 38) rfl ?_); refine goesL_ (some 31) rfl rfl Tryz.func38 (by kernel_rfl) rfl #[.string (cutS a0 (x7_1 : Int).toNat ((ji85) : Int).toNat), .string (⟨#[10]⟩ : ByteArray)] rfl (by (try simp only [List.map_toArray, List.map_cons, List.map_nil]); first | done | (simp only [hji85]; rfl) | rfl | (simp only [List.length_drop, List.length_take]; rfl)) ?_; (with_reducible refine (strings_Count.calls (cutS a0 (x7_1 : Int).toNat ((ji85) : Int).toNat) (⟨#[10]⟩ : ByteArray) t138 _ A16.out).mono ?_); rintro e w92 ⟨rfl, hb⟩; refine ⟨_, rfl, ?_⟩; have n0_ := Aside0.mk (Kd.R_below (by (with_reducible repeat (first | apply Kd.R_alloc | apply Kd.R_drewN | apply Kd.R_drew)); exact HO_5.out) hb); have n1_ := Aside0.mk (blk_below (g := gb132) (o := .cells #[.int .i64 x133000_1, .int .i64 x133001_1, .int .i64 x133002_1] 26 (0, 0)) (by (with_reducible repeat (first | refine blk_drewN ?_ _ | refine blk_drew ?_ | refine blk_alloc ?_ _)); exact BK132.out) hb); have n2_ := Aside0.mk (blk_below (g := gb136) (o := .cells #[.int .i64 x137000_1, .int .i64 x137001_1, .int .i64 x137002_1] 26 (0, 0)) (by (with_reducible repeat (first | refine blk_drewN ?_ _ | refine blk_drew ?_ | refine blk_alloc ?_ _)); exact BK136.out) hb); have n3_ := Aside0.mk (below_step (by repeat (first | (with_reducible first | exact HB.out | apply below_alloc | apply pw_below_drewN | apply below_drew1 | refine below_set ?_ GE132.out | refine below_set ?_ GE136.out) | exact HB.out)) hb); clear HO_5; clear BK132; clear BK136; clear HB; have HO_5 := n0_; have BK132 := n1_; have BK136 := n2_; have HB := n3_; clear n0_ n1_ n2_ n3_; (try clear hb); (try clear hb2); (try clear hk); (try clear hi)))
                        have n0_ := Aside0.mk (Kd.R_drew HO_5.out)
                        have n1_ := Aside0.mk (blk_drew BK132.out)
                        have n2_ := Aside0.mk (blk_drew BK136.out)
                        have n3_ := Aside0.mk (below_drew1 HB.out)
                        clear HO_5
                        clear BK132
                        clear BK136
                        clear HB
                        have HO_5 := n0_
                        have BK132 := n1_
                        have BK136 := n2_
                        have HB := n3_
                        clear n0_ n1_ n2_ n3_
                        refine start_ (n := 13) (S := fun w' => w'.cell? ⟨gb136, 0, none⟩ = some (.int .i64 x137000_1) ∧ w'.cell? ⟨gb136, 1, none⟩ = some (.int .i64 x137001_1) ∧ w'.cell? ⟨gb136, 2, none⟩ = some (.int .i64 x137002_1)) (ds := [11]) #[false, false, false, false, false, false, false, false, false, false, false, false, false] (by kernel_rfl) rfl rfl ⟨(blk_cell BK136.out 0).trans rfl, (blk_cell BK136.out 1).trans rfl, (blk_cell BK136.out 2).trans rfl⟩ (fun hHeld => ?_); refine with_tabW scan_All.tab5 scan_All.bits5 (fun HT_ HW_ => ?_)
                        generalize w92.drew = w93 at HO_5 BK132 BK136 HB hHeld ⊢
                        refine pure_ (i := 1) (N := some 33) (v := ?_) (a' := ?_) #[false, true, false, false, false, false, false, false, false, false, false, false, false] rfl rfl (any_of HT_.out (by kernel_rfl)) (fun _ _ _ h => h) (Or.inl ⟨by rfl, ?_⟩) ?_ ?_
                        rotate_left
                        · intro w'
                          go_simp
                          with_reducible rfl
                        rotate_left
                        · simp only [Act.put, List.setIfInBounds_toArray, List.set_cons_zero, List.set_cons_succ, i64_w, i32_w]
                          rfl
                        refine pure_ (i := 2) (N := some 34) (v := ?_) (a' := ?_) #[false, true, true, false, false, false, false, false, false, false, false, false, false] rfl rfl (any_of HT_.out (by kernel_rfl)) (fun _ _ _ h => h) (Or.inl ⟨by rfl, ?_⟩) ?_ ?_
                        rotate_left
                        · intro w'
                          go_simp
                          with_reducible rfl
                        rotate_left
                        · simp only [Act.put, List.setIfInBounds_toArray, List.set_cons_zero, List.set_cons_succ, i64_w, i32_w]
                          rfl
                        refine pure_ (i := 3) (N := some 35) (v := ?_) (a' := ?_) #[false, true, true, true, false, false, false, false, false, false, false, false, false] rfl rfl (any_of HT_.out (by kernel_rfl)) (fun _ _ _ h => h) (Or.inl ⟨by rfl, ?_⟩) ?_ ?_
                        rotate_left
                        · intro w'
                          go_simp
                          with_reducible rfl
                        rotate_left
                        · simp only [Act.put, List.setIfInBounds_toArray, List.set_cons_zero, List.set_cons_succ, i64_w, i32_w]
                          rfl
                        refine pure_ (i := 4) (N := some 36) (v := ?_) (a' := ?_) #[false, true, true, true, true, false, false, false, false, false, false, false, false] rfl rfl (any_of HT_.out (by kernel_rfl)) (fun _ _ _ h => h) (Or.inl ⟨by rfl, ?_⟩) ?_ ?_
                        rotate_left
                        · intro w'
                          go_simp
                          with_reducible rfl
                        rotate_left
                        · simp only [Act.put, List.setIfInBounds_toArray, List.set_cons_zero, List.set_cons_succ, i64_w, i32_w]
                          rfl
                        refine pure_ (i := 5) (N := some 37) (v := ?_) (a' := ?_) #[false, true, true, true, true, true, false, false, false, false, false, false, false] rfl rfl (any_of HT_.out (by kernel_rfl)) (fun _ _ _ h => h) (Or.inl ⟨by rfl, ?_⟩) ?_ ?_
                        rotate_left
                        · intro w'
                          go_simp
                          with_reducible rfl
                        rotate_left
                        · simp only [Act.put, List.setIfInBounds_toArray, List.set_cons_zero, List.set_cons_succ, i64_w, i32_w]
                          rfl
                        refine pure_ (i := 6) (N := some 38) (v := ?_) (a' := ?_) #[false, true, true, true, true, true, true, false, false, false, false, false, false] rfl rfl (any_of HT_.out (by kernel_rfl)) (fun _ _ _ h => h) (Or.inl ⟨by rfl, ?_⟩) ?_ ?_
                        rotate_left
                        · intro w'
                          go_simp
                          with_reducible rfl
                        rotate_left
                        · simp only [Act.put, List.setIfInBounds_toArray, List.set_cons_zero, List.set_cons_succ, i64_w, i32_w]
                          rfl
                        refine pure_ (i := 8) (N := some 40) (v := ?_) (a' := ?_) #[false, true, true, true, true, true, true, false, true, false, false, false, false] rfl rfl (any_of HT_.out (by kernel_rfl)) (fun _ _ _ h => h) (Or.inl ⟨by rfl, ?_⟩) ?_ ?_
                        rotate_left
                        · intro w'
                          go_simp
                          with_reducible rfl
                        rotate_left
                        · simp only [Act.put, List.setIfInBounds_toArray, List.set_cons_zero, List.set_cons_succ, i64_w, i32_w]
                          rfl
                        refine pure_ (i := 9) (N := some 41) (v := ?_) (a' := ?_) #[false, true, true, true, true, true, true, false, true, true, false, false, false] rfl rfl (any_of HT_.out (by kernel_rfl)) (fun _ _ _ h => h) (Or.inl ⟨by rfl, ?_⟩) ?_ ?_
                        rotate_left
                        · intro w'
                          go_simp
                          with_reducible rfl
                        rotate_left
                        · simp only [Act.put, List.setIfInBounds_toArray, List.set_cons_zero, List.set_cons_succ, i64_w, i32_w]
                          rfl
                        refine pure_ (i := 10) (N := some 42) (v := ?_) (a' := ?_) #[false, true, true, true, true, true, true, false, true, true, true, false, false] rfl rfl (any_of HT_.out (by kernel_rfl)) (fun _ _ _ h => h) (Or.inl ⟨by rfl, ?_⟩) ?_ ?_
                        rotate_left
                        · intro w'
                          go_simp
                          with_reducible rfl
                        rotate_left
                        · simp only [Act.put, List.setIfInBounds_toArray, List.set_cons_zero, List.set_cons_succ, i64_w, i32_w]
                          rfl
                        refine take_ (i := 0) (N := some 32) (v := ?_) (a' := ?_) #[true, true, true, true, true, true, true, false, true, true, true, false, false] rfl rfl (take_ofW HT_.out HW_.out (by kernel_rfl)) (fun _ _ _ h => h) (Or.inl ⟨by rfl, ?_⟩) hHeld ?_ ?_
                        rotate_left
                        · rintro w' ⟨s0, s1, s2⟩
                          go_simp
                          with_reducible rfl
                        rotate_left
                        · simp only [Act.put, List.setIfInBounds_toArray, List.set_cons_zero, List.set_cons_succ, i64_w, i32_w]
                          rfl
                        refine one_ (i := 7) (N := some 39) #[true, true, true, true, true, true, true, true, true, true, true, false, false] rfl rfl (one_of HT_.out (by kernel_rfl)) (by decide) (fun K hK => ?_)
                        refine goes_ Tryz.func39 (by kernel_rfl) rfl #[.agg #[.int .i64 x137000_1, .int .i64 x137001_1, .int .i64 x137002_1], .string (cutS a0 (x7_1 : Int).toNat ((ji85) : Int).toNat)] (by rfl) rfl rfl (by (try simp only [List.map_toArray, List.map_cons, List.map_nil]); first | done | (simp only [hji85]; rfl) | rfl | (simp only [List.length_drop, List.length_take]; rfl)) ?_
                        with_reducible refine (place_Advance.calls x137000_1 x137001_1 x137002_1 (cutS a0 (x7_1 : Int).toNat ((ji85) : Int).toNat) t139 t140 t141 _ A20.out).mono ?_
                        rintro e w94 ⟨rfl, hb⟩
                        refine ⟨_, rfl, ?_⟩
                        have n0_ := Aside0.mk (Kd.R_below (by (with_reducible repeat (first | apply Kd.R_alloc | apply Kd.R_drewN | apply Kd.R_drew)); exact HO_5.out) hb)
                        have n1_ := Aside0.mk (blk_below (g := gb132) (o := .cells #[.int .i64 x133000_1, .int .i64 x133001_1, .int .i64 x133002_1] 26 (0, 0)) (by (with_reducible repeat (first | refine blk_drewN ?_ _ | refine blk_drew ?_ | refine blk_alloc ?_ _)); exact BK132.out) hb)
                        have n2_ := Aside0.mk (blk_below (g := gb136) (o := .cells #[.int .i64 x137000_1, .int .i64 x137001_1, .int .i64 x137002_1] 26 (0, 0)) (by (with_reducible repeat (first | refine blk_drewN ?_ _ | refine blk_drew ?_ | refine blk_alloc ?_ _)); exact BK136.out) hb)
                        have n3_ := Aside0.mk (below_step (by repeat (first | (with_reducible first | exact HB.out | apply below_alloc | apply pw_below_drewN | apply below_drew1 | refine below_set ?_ GE132.out | refine below_set ?_ GE136.out) | exact HB.out)) hb)
                        clear HO_5
                        clear BK132
                        clear BK136
                        clear HB
                        have HO_5 := n0_
                        have BK132 := n1_
                        have BK136 := n2_
                        have HB := n3_
                        clear n0_ n1_ n2_ n3_
                        (try clear hb)
                        (try clear hb2)
                        (try clear hk)
                        (try clear hi)
                        refine hK.out _ _ ⟨(blk_cell BK136.out 0).trans rfl, (blk_cell BK136.out 1).trans rfl, (blk_cell BK136.out 2).trans rfl⟩ (fun hHeld => ?_)
                        clear hK K
                        refine norm_ (a' := ?_) ?_ ?_
                        rotate_left
                        · show Act.put _ (some 39) _ = _
                          simp only [Act.put, List.setIfInBounds_toArray, List.set_cons_zero, List.set_cons_succ, i64_w, i32_w]
                          rfl
                        refine last_ (i := 11) (N := none) #[true, true, true, true, true, true, true, true, true, true, true, true, false] rfl rfl (one_of HT_.out (by kernel_rfl)) (by decide) (fun K hK => ?_)
                        have hs95 : w94.cell? ⟨gb136, 0, none⟩ = some (.int .i64 x137000_1) := (blk_cell BK136.out 0).trans rfl
                        have hfs95 := blk_frozen BK136.out 0
                        have hns95_0 := NB132_136.out
                        have hms95_0 := NB136_132.out
                        have hs96 : w94.cell? ⟨gb136, 1, none⟩ = some (.int .i64 x137001_1) := (blk_cell BK136.out 1).trans rfl
                        have hfs96 := blk_frozen BK136.out 1
                        have hns96_0 := NB132_136.out
                        have hms96_0 := NB136_132.out
                        have hs97 : w94.cell? ⟨gb136, 2, none⟩ = some (.int .i64 x137002_1) := (blk_cell BK136.out 2).trans rfl
                        have hfs97 := blk_frozen BK136.out 2
                        have hns97_0 := NB132_136.out
                        have hms97_0 := NB136_132.out
                        refine skip_ (w1 := ?_) (by rfl) rfl ?_ ?_
                        rotate_left
                        · go_simp
                          rfl
                        refine hK.out _ _ ?_
                        clear hK K
                        refine pure_ (i := 12) (N := some 7) (v := ?_) (a' := ?_) #[true, true, true, true, true, true, true, true, true, true, true, true, true] rfl rfl (any_of HT_.out (by kernel_rfl)) (fun _ _ _ h => h) (Or.inl ⟨by rfl, ?_⟩) ?_ ?_
                        rotate_left
                        · intro w'
                          go_simp
                          with_reducible rfl
                        rotate_left
                        · simp only [Act.put, List.setIfInBounds_toArray, List.set_cons_zero, List.set_cons_succ, i64_w, i32_w]
                          rfl
                        refine done_ (done_of HT_.out (by kernel_rfl)) ?_
                        try go_wp2_with (first | ((with_reducible refine gate_callee (f := 40) rfl ?_); refine goesL_ (some 52) rfl rfl Tryz.func40 (by kernel_rfl) rfl #[.string a0, .int .i64 ji85] rfl (by (try simp only [List.map_toArray, List.map_cons, List.map_nil]); first | done | (simp only [hji85]; rfl) | rfl | (simp only [List.length_drop, List.length_take]; rfl)) ?_; (with_reducible refine (scan_one.calls k1 a0 ji85 t142 t143 t144 _ A32.out ?sideT).mono ?_); (case sideT => exact Clas.below hT (by repeat (first | (with_reducible first | exact HB.out | apply below_alloc | apply pw_below_drewN | apply below_drew1) | exact HB.out | refine below_set ?_ (Aside0.out (by assumption))))); rintro e w98 ⟨rfl, hb⟩; refine ⟨_, rfl, ?_⟩; have n0_ := Aside0.mk (Kd.R_below (by (with_reducible repeat (first | apply Kd.R_alloc | apply Kd.R_drewN | apply Kd.R_drew)); exact (Kd.R_mono (Kd.R_far (p := ⟨gb136, 2, none⟩) (Kd.R_far (p := ⟨gb136, 1, none⟩) (Kd.R_far (p := ⟨gb136, 0, none⟩) (Kd.R_types HO_5.out BK136.out (by decide)) (fun _ hk => hk.2) (.int .i64 t139)) (fun _ hk => hk.2) (.int .i64 t140)) (fun _ hk => hk.2) (.int .i64 t141)) (fun _ h_ => h_.1))) hb); have n1_ := Aside0.mk (blk_below (g := gb132) (o := .cells #[.int .i64 x133000_1, .int .i64 x133001_1, .int .i64 x133002_1] 26 (0, 0)) (by (with_reducible repeat (first | refine blk_drewN ?_ _ | refine blk_drew ?_ | refine blk_alloc ?_ _)); refine blk_far ?_ NB132_136.out _; (with_reducible repeat (first | refine blk_drewN ?_ _ | refine blk_drew ?_ | refine blk_alloc ?_ _)); refine blk_far ?_ NB132_136.out _; (with_reducible repeat (first | refine blk_drewN ?_ _ | refine blk_drew ?_ | refine blk_alloc ?_ _)); refine blk_far ?_ NB132_136.out _; (with_reducible repeat (first | refine blk_drewN ?_ _ | refine blk_drew ?_ | refine blk_alloc ?_ _)); exact BK132.out) hb); have n2_ := Aside0.mk (blk_below (g := gb136) (o := .cells #[.int .i64 t139, .int .i64 t140, .int .i64 t141] 26 (0, 0)) (by (with_reducible repeat (first | refine blk_drewN ?_ _ | refine blk_drew ?_ | refine blk_alloc ?_ _)); refine blk_put (cs := #[.int .i64 t139, .int .i64 t140, .int .i64 x137002_1]) ?_ 2 _ rfl; (with_reducible repeat (first | refine blk_drewN ?_ _ | refine blk_drew ?_ | refine blk_alloc ?_ _)); refine blk_put (cs := #[.int .i64 t139, .int .i64 x137001_1, .int .i64 x137002_1]) ?_ 1 _ rfl; (with_reducible repeat (first | refine blk_drewN ?_ _ | refine blk_drew ?_ | refine blk_alloc ?_ _)); refine blk_put (cs := #[.int .i64 x137000_1, .int .i64 x137001_1, .int .i64 x137002_1]) ?_ 0 _ rfl; (with_reducible repeat (first | refine blk_drewN ?_ _ | refine blk_drew ?_ | refine blk_alloc ?_ _)); exact BK136.out) hb); have n3_ := Aside0.mk (below_step (by repeat (first | (with_reducible first | exact HB.out | apply below_alloc | apply pw_below_drewN | apply below_drew1 | refine below_set ?_ GE132.out | refine below_set ?_ GE136.out) | exact HB.out)) hb); clear HO_5; clear BK132; clear BK136; clear HB; have HO_5 := n0_; have BK132 := n1_; have BK136 := n2_; have HB := n3_; clear n0_ n1_ n2_ n3_; (try clear hb); (try clear hb2); (try clear hk); (try clear hi)))
                        have n0_ := Aside0.mk (Kd.R_drew HO_5.out)
                        have n1_ := Aside0.mk (blk_drew BK132.out)
                        have n2_ := Aside0.mk (blk_drew BK136.out)
                        have n3_ := Aside0.mk (below_drew1 HB.out)
                        clear HO_5
                        clear BK132
                        clear BK136
                        clear HB
                        have HO_5 := n0_
                        have BK132 := n1_
                        have BK136 := n2_
                        have HB := n3_
                        clear n0_ n1_ n2_ n3_
                        refine start_ (n := 11) (S := fun w' => w'.cell? ⟨gb136, 0, none⟩ = some (.int .i64 t139) ∧ w'.cell? ⟨gb136, 1, none⟩ = some (.int .i64 t140) ∧ w'.cell? ⟨gb136, 2, none⟩ = some (.int .i64 t141)) (ds := []) #[false, false, false, false, false, false, false, false, false, false, false] (by kernel_rfl) rfl rfl ⟨(blk_cell BK136.out 0).trans rfl, (blk_cell BK136.out 1).trans rfl, (blk_cell BK136.out 2).trans rfl⟩ (fun hHeld => ?_); refine with_tabW scan_All.tab10 scan_All.bits10 (fun HT_ HW_ => ?_)
                        generalize w98.drew = w99 at HO_5 BK132 BK136 HB hHeld ⊢
                        refine pure_ (i := 0) (N := some 58) (v := ?_) (a' := ?_) #[true, false, false, false, false, false, false, false, false, false, false] rfl rfl (any_of HT_.out (by kernel_rfl)) (fun _ _ _ h => h) (Or.inl ⟨by rfl, ?_⟩) ?_ ?_
                        rotate_left
                        · intro w'
                          go_simp
                          with_reducible rfl
                        rotate_left
                        · simp only [Act.put, List.setIfInBounds_toArray, List.set_cons_zero, List.set_cons_succ, i64_w, i32_w]
                          rfl
                        refine pure_ (i := 1) (N := some 59) (v := ?_) (a' := ?_) #[true, true, false, false, false, false, false, false, false, false, false] rfl rfl (any_of HT_.out (by kernel_rfl)) (fun _ _ _ h => h) (Or.inl ⟨by rfl, ?_⟩) ?_ ?_
                        rotate_left
                        · intro w'
                          go_simp
                          with_reducible rfl
                        rotate_left
                        · simp only [Act.put, List.setIfInBounds_toArray, List.set_cons_zero, List.set_cons_succ, i64_w, i32_w]
                          rfl
                        refine pure_ (i := 3) (N := some 61) (v := ?_) (a' := ?_) #[true, true, false, true, false, false, false, false, false, false, false] rfl rfl (any_of HT_.out (by kernel_rfl)) (fun _ _ _ h => h) (Or.inl ⟨by rfl, ?_⟩) ?_ ?_
                        rotate_left
                        · intro w'
                          go_simp
                          with_reducible rfl
                        rotate_left
                        · simp only [Act.put, List.setIfInBounds_toArray, List.set_cons_zero, List.set_cons_succ, i64_w, i32_w]
                          rfl
                        refine pure_ (i := 4) (N := some 62) (v := ?_) (a' := ?_) #[true, true, false, true, true, false, false, false, false, false, false] rfl rfl (any_of HT_.out (by kernel_rfl)) (fun _ _ _ h => h) (Or.inl ⟨by rfl, ?_⟩) ?_ ?_
                        rotate_left
                        · intro w'
                          go_simp
                          with_reducible rfl
                        rotate_left
                        · simp only [Act.put, List.setIfInBounds_toArray, List.set_cons_zero, List.set_cons_succ, i64_w, i32_w]
                          rfl
                        refine pure_ (i := 5) (N := some 63) (v := ?_) (a' := ?_) #[true, true, false, true, true, true, false, false, false, false, false] rfl rfl (any_of HT_.out (by kernel_rfl)) (fun _ _ _ h => h) (Or.inl ⟨by rfl, ?_⟩) ?_ ?_
                        rotate_left
                        · intro w'
                          go_simp
                          with_reducible rfl
                        rotate_left
                        · simp only [Act.put, List.setIfInBounds_toArray, List.set_cons_zero, List.set_cons_succ, i64_w, i32_w]
                          rfl
                        refine pure_ (i := 6) (N := some 64) (v := ?_) (a' := ?_) #[true, true, false, true, true, true, true, false, false, false, false] rfl rfl (any_of HT_.out (by kernel_rfl)) (fun _ _ _ h => h) (Or.inl ⟨by rfl, ?_⟩) ?_ ?_
                        rotate_left
                        · intro w'
                          go_simp
                          with_reducible rfl
                        rotate_left
                        · simp only [Act.put, List.setIfInBounds_toArray, List.set_cons_zero, List.set_cons_succ, i64_w, i32_w]
                          rfl
                        refine take_ (i := 2) (N := some 60) (v := ?_) (a' := ?_) #[true, true, true, true, true, true, true, false, false, false, false] rfl rfl (take_ofW HT_.out HW_.out (by kernel_rfl)) (fun _ _ _ h => h) (Or.inl ⟨by rfl, ?_⟩) hHeld ?_ ?_
                        rotate_left
                        · rintro w' ⟨s0, s1, s2⟩
                          go_simp
                          with_reducible rfl
                        rotate_left
                        · simp only [Act.put, List.setIfInBounds_toArray, List.set_cons_zero, List.set_cons_succ, i64_w, i32_w]
                          rfl
                        refine one_ (i := 7) (N := some 65) #[true, true, true, true, true, true, true, true, false, false, false] rfl rfl (one_of HT_.out (by kernel_rfl)) (by decide) (fun K hK => ?_)
                        refine goes_ Tryz.func39 (by kernel_rfl) rfl #[.agg #[.int .i64 t139, .int .i64 t140, .int .i64 t141], .string (cutS a0 ((ji85) : Int).toNat (t143 : Int).toNat)] (by rfl) rfl rfl (by (try simp only [List.map_toArray, List.map_cons, List.map_nil]); first | done | (simp only [hji85]; rfl) | rfl | (simp only [List.length_drop, List.length_take]; rfl)) ?_
                        with_reducible refine (place_Advance.calls t139 t140 t141 (cutS a0 ((ji85) : Int).toNat (t143 : Int).toNat) t145 t146 t147 _ A89.out).mono ?_
                        rintro e w100 ⟨rfl, hb⟩
                        refine ⟨_, rfl, ?_⟩
                        have n0_ := Aside0.mk (Kd.R_below (by (with_reducible repeat (first | apply Kd.R_alloc | apply Kd.R_drewN | apply Kd.R_drew)); exact HO_5.out) hb)
                        have n1_ := Aside0.mk (blk_below (g := gb132) (o := .cells #[.int .i64 x133000_1, .int .i64 x133001_1, .int .i64 x133002_1] 26 (0, 0)) (by (with_reducible repeat (first | refine blk_drewN ?_ _ | refine blk_drew ?_ | refine blk_alloc ?_ _)); exact BK132.out) hb)
                        have n2_ := Aside0.mk (blk_below (g := gb136) (o := .cells #[.int .i64 t139, .int .i64 t140, .int .i64 t141] 26 (0, 0)) (by (with_reducible repeat (first | refine blk_drewN ?_ _ | refine blk_drew ?_ | refine blk_alloc ?_ _)); exact BK136.out) hb)
                        have n3_ := Aside0.mk (below_step (by repeat (first | (with_reducible first | exact HB.out | apply below_alloc | apply pw_below_drewN | apply below_drew1 | refine below_set ?_ GE132.out | refine below_set ?_ GE136.out) | exact HB.out)) hb)
                        clear HO_5
                        clear BK132
                        clear BK136
                        clear HB
                        have HO_5 := n0_
                        have BK132 := n1_
                        have BK136 := n2_
                        have HB := n3_
                        clear n0_ n1_ n2_ n3_
                        (try clear hb)
                        (try clear hb2)
                        (try clear hk)
                        (try clear hi)
                        refine hK.out _ _ ⟨(blk_cell BK136.out 0).trans rfl, (blk_cell BK136.out 1).trans rfl, (blk_cell BK136.out 2).trans rfl⟩ (fun hHeld => ?_)
                        clear hK K
                        refine norm_ (a' := ?_) ?_ ?_
                        rotate_left
                        · show Act.put _ (some 65) _ = _
                          simp only [Act.put, List.setIfInBounds_toArray, List.set_cons_zero, List.set_cons_succ, i64_w, i32_w]
                          rfl
                        refine pure_ (i := 8) (N := some 2) (v := ?_) (a' := ?_) #[true, true, true, true, true, true, true, true, true, false, false] rfl rfl (any_of HT_.out (by kernel_rfl)) (fun _ _ _ h => h) (Or.inl ⟨by rfl, ?_⟩) ?_ ?_
                        rotate_left
                        · intro w'
                          go_simp
                          with_reducible rfl
                        rotate_left
                        · simp only [Act.put, List.setIfInBounds_toArray, List.set_cons_zero, List.set_cons_succ, i64_w, i32_w]
                          rfl
                        refine pure_ (i := 9) (N := some 3) (v := ?_) (a' := ?_) #[true, true, true, true, true, true, true, true, true, true, false] rfl rfl (any_of HT_.out (by kernel_rfl)) (fun _ _ _ h => h) (Or.inl ⟨by rfl, ?_⟩) ?_ ?_
                        rotate_left
                        · intro w'
                          go_simp
                          with_reducible rfl
                        rotate_left
                        · simp only [Act.put, List.setIfInBounds_toArray, List.set_cons_zero, List.set_cons_succ, i64_w, i32_w]
                          rfl
                        refine one_ (i := 10) (N := none) #[true, true, true, true, true, true, true, true, true, true, true] rfl rfl (one_of HT_.out (by kernel_rfl)) (by decide) (fun K hK => ?_)
                        have hs101 : w100.cell? ⟨gb132, 0, none⟩ = some (.int .i64 x133000_1) := (blk_cell BK132.out 0).trans rfl
                        have hfs101 := blk_frozen BK132.out 0
                        have hns101_1 := NB136_132.out
                        have hms101_1 := NB132_136.out
                        have hs102 : w100.cell? ⟨gb132, 1, none⟩ = some (.int .i64 x133001_1) := (blk_cell BK132.out 1).trans rfl
                        have hfs102 := blk_frozen BK132.out 1
                        have hns102_1 := NB136_132.out
                        have hms102_1 := NB132_136.out
                        have hs103 : w100.cell? ⟨gb132, 2, none⟩ = some (.int .i64 x133002_1) := (blk_cell BK132.out 2).trans rfl
                        have hfs103 := blk_frozen BK132.out 2
                        have hns103_1 := NB136_132.out
                        have hms103_1 := NB132_136.out
                        refine skip_ (w1 := ?_) (by rfl) rfl ?_ ?_
                        rotate_left
                        · go_simp
                          rfl
                        refine hK.out _ _ ⟨((cell_far (p := ⟨gb132, _, none⟩) NB136_132.out _).trans (((cell_far (p := ⟨gb132, _, none⟩) NB136_132.out _).trans (((cell_far (p := ⟨gb132, _, none⟩) NB136_132.out _).trans (hHeld.1)))))), ((cell_far (p := ⟨gb132, _, none⟩) NB136_132.out _).trans (((cell_far (p := ⟨gb132, _, none⟩) NB136_132.out _).trans (((cell_far (p := ⟨gb132, _, none⟩) NB136_132.out _).trans (hHeld.2.1)))))), ((cell_far (p := ⟨gb132, _, none⟩) NB136_132.out _).trans (((cell_far (p := ⟨gb132, _, none⟩) NB136_132.out _).trans (((cell_far (p := ⟨gb132, _, none⟩) NB136_132.out _).trans (hHeld.2.2))))))⟩ (fun hHeld => ?_)
                        clear hK K
                        refine done_ (done_of HT_.out (by kernel_rfl)) ?_
                        try go_wp2
                        refine bodyPost_ret (results_list (rs := [.tmp 2, .tmp 3, .cell 4 26]) rfl (by simp) (.tmp (.tmp (.cell gb132 26 #[.int .i64 t145, .int .i64 t146, .int .i64 t147] (0, 0) _ rfl (by (with_reducible repeat (first | refine blk_drewN ?_ _ | refine blk_drew ?_ | refine blk_alloc ?_ _)); refine blk_put (cs := #[.int .i64 t145, .int .i64 t146, .int .i64 x133002_1]) ?_ 2 _ rfl; (with_reducible repeat (first | refine blk_drewN ?_ _ | refine blk_drew ?_ | refine blk_alloc ?_ _)); refine blk_put (cs := #[.int .i64 t145, .int .i64 x133001_1, .int .i64 x133002_1]) ?_ 1 _ rfl; (with_reducible repeat (first | refine blk_drewN ?_ _ | refine blk_drew ?_ | refine blk_alloc ?_ _)); refine blk_put (cs := #[.int .i64 x133000_1, .int .i64 x133001_1, .int .i64 x133002_1]) ?_ 0 _ rfl; (with_reducible repeat (first | refine blk_drewN ?_ _ | refine blk_drew ?_ | refine blk_alloc ?_ _)); exact BK132.out) Tryz.underlying26 rfl (by kernel_rfl) .nil)))) rfl ?_
                        exact ⟨_, by first | rfl | (simp [errW_none, errW_some] <;> rfl) | (simp only [← hji85]; first | rfl | (simp [errW_none, errW_some] <;> rfl)) | (simp [*, errW_none, errW_some] <;> rfl), by (with_reducible repeat (first | apply Kd.R_alloc | apply Kd.R_drewN | apply Kd.R_drew)); exact Kd.R_mono (Kd.R_far (p := ⟨gb132, 2, none⟩) (Kd.R_far (p := ⟨gb132, 1, none⟩) (Kd.R_far (p := ⟨gb132, 0, none⟩) (Kd.R_types HO_5.out BK132.out (by decide)) (fun _ hk => hk.2) (.int .i64 t145)) (fun _ hk => hk.2) (.int .i64 t146)) (fun _ hk => hk.2) (.int .i64 t147)) (fun _ hk => trivial), by repeat (first | (with_reducible first | exact HB.out | apply below_alloc | apply pw_below_drewN | apply below_drew1 | refine below_set ?_ GE132.out | refine below_set ?_ GE136.out) | exact HB.out)⟩
                      · rw [if_neg c88] at H
                        exact absurd H (by simp)
                    · rw [if_neg c87] at H
                      exact absurd H (by simp)
                  · rw [if_neg c86] at H
                    exact absurd H (by simp)
            · rw [if_neg c15] at H
              exact absurd H (by simp)
          · rw [if_neg c14] at H
            exact absurd H (by simp)
        · rw [if_neg c9] at H
          exact absurd H (by simp)
      · rw [if_neg c8] at H
        exact absurd H (by simp)

end Go.Proofs.YtdphhmigbbgjmaaGreatDoor.PScan
