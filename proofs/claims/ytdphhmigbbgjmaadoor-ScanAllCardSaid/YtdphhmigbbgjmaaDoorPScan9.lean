/- Printed by a program of this session (wip/xprint.py) over the kit's print, with contracts of this session's own: scan, its reference, its laws. -/
import Derived.Test.YtdphhmigbbgjmaaDoorPScan0
import Derived.Test.YtdphhmigbbgjmaaDoorPScan6
import Derived.Test.YtdphhmigbbgjmaaDoorPScan7
import Derived.Test.YtdphhmigbbgjmaaDoorPScan8
namespace Go.Proofs.YtdphhmigbbgjmaaDoor.PScan
open Go.RowKit Go.Proofs.YtdphhmigbbgjmaaDoorW.PrintWords Go.Proofs.YtdphhmigbbgjmaaDoorW.PrintLast Go.Proofs.YtdphhmigbbgjmaaDoorW.PrintMore
attribute [local go_sem] max2_int min2_int max_two min_two max_three min_three max_four min_four   -- for this text's walks alone
set_option linter.unusedVariables false
set_option linter.unusedSimpArgs false
attribute [local go_sem ↓] cutS_in

/-! ### colophonref10_Find: function 41 -/
mutual
def colophonref10_Find.l0 : Nat → ByteArray → Int → Int → List (S35) → Int → Int → Int → Int → Int → Option ((List (S35)) × Int × Int)
  | 0, _, _, _, _, _, _, _, _, _ => none
  | k + 1, x0, x5, x6, x244000, x244001, x244002, x245000, x245001, x245002 => if x6 < (x0.size : Int) then (if 0 ≤ x6 then (if (bt x0 x6) = 10 then (colophonref10_Find.j1 k x0 (wrap64 (x5 + 1)) x6 x244000 x244001 x244002 x245000 x245001 x245002) else (colophonref10_Find.j1 k x0 x5 x6 x244000 x244001 x244002 x245000 x245001 x245002)) else (none)) else (some (x244000, x244001, x244002))
def colophonref10_Find.j1 : Nat → ByteArray → Int → Int → List (S35) → Int → Int → Int → Int → Int → Option ((List (S35)) × Int × Int)
  | 0, _, _, _, _, _, _, _, _, _ => none
  | k + 1, x0, x5, x6, x244000, x244001, x244002, x245000, x245001, x245002 => if 0 ≤ x6 then (if x6 < (x0.size : Int) then (if (bt x0 x6) = 10 then (colophonref10_Find.j2 k x0 x5 x6 true x244000 x244001 x244002 x245000 x245001 x245002) else ((colophonref10_blank.f (bt x0 x6)).bind fun t245 => (colophonref10_Find.j2 k x0 x5 x6 t245 x244000 x244001 x244002 x245000 x245001 x245002))) else (none)) else (none)
def colophonref10_Find.j2 : Nat → ByteArray → Int → Int → Bool → List (S35) → Int → Int → Int → Int → Int → Option ((List (S35)) × Int × Int)
  | 0, _, _, _, _, _, _, _, _, _, _ => none
  | k + 1, x0, x5, x6, x32, x244000, x244001, x244002, x245000, x245001, x245002 => if x32 = true then (colophonref10_Find.l0 k x0 x5 (wrap64 (x6 + 1)) x244000 x244001 x244002 x245000 x245001 x245002) else ((colophonref10_begins.f k x0 x6).bind fun t246 => (if t246 = 0 then (some (x244000, 100, x6)) else ((colophonref10_ends.f k x0 x6 t246).bind fun bt247 => (if bt247.2 = 0 then (if 0 ≤ x245000 then (if x245000 ≤ x6 then (if x6 ≤ (x0.size : Int) then ((colophonref03_Advance.f x245000 x245001 x245002 (cutS x0 (x245000 : Int).toNat (x6 : Int).toNat)).bind fun bt250 => (if 0 ≤ x6 then (if x6 ≤ bt247.1 then (if bt247.1 ≤ (x0.size : Int) then ((colophonref04_IsKey.f k (cutS x0 (x6 : Int).toNat (bt247.1 : Int).toNat)).bind fun t254 => (if t246 = 1 then (colophonref10_Find.j3 k x0 t246 t254 x244000 x244001 x244002 bt250.1 bt250.2.1 bt250.2.2 bt247.1 bt247.2 t246 (cutS x0 (x6 : Int).toNat (bt247.1 : Int).toNat) bt250.1 bt250.2.1 bt250.2.2 x5) else (colophonref10_Find.j3 k x0 t246 false x244000 x244001 x244002 bt250.1 bt250.2.1 bt250.2.2 bt247.1 bt247.2 t246 (cutS x0 (x6 : Int).toNat (bt247.1 : Int).toNat) bt250.1 bt250.2.1 bt250.2.2 x5))) else (none)) else (none)) else (none))) else (none)) else (none)) else (none)) else (some (x244000, bt247.2, bt247.1))))))
def colophonref10_Find.j3 : Nat → ByteArray → Int → Bool → List (S35) → Int → Int → Int → Int → Int → Int → Int → Int → ByteArray → Int → Int → Int → Int → Option ((List (S35)) × Int × Int)
  | 0, _, _, _, _, _, _, _, _, _, _, _, _, _, _, _, _, _ => none
  | k + 1, x0, x7, x81, x244000, x244001, x244002, x245000, x245001, x245002, x250000, x250001, x254000, x254001, x254002, x254003, x254004, x254005 => if x81 = true then (colophonref10_Find.j4 k x0 x7 x244000 x244001 x244002 x245000 x245001 x245002 x250000 x250001 2 x254001 x254002 x254003 x254004 x254005) else (colophonref10_Find.j4 k x0 x7 x244000 x244001 x244002 x245000 x245001 x245002 x250000 x250001 x254000 x254001 x254002 x254003 x254004 x254005)
def colophonref10_Find.j4 : Nat → ByteArray → Int → List (S35) → Int → Int → Int → Int → Int → Int → Int → Int → ByteArray → Int → Int → Int → Int → Option ((List (S35)) × Int × Int)
  | 0, _, _, _, _, _, _, _, _, _, _, _, _, _, _, _, _ => none
  | k + 1, x0, x7, x244000, x244001, x244002, x245000, x245001, x245002, x250000, x250001, x254000, x254001, x254002, x254003, x254004, x254005 => colophonref10_Find.l1 k x0 x7 x244000 x244001 x244002 x245000 x245001 x245002 x250000 x250001 x254000 x254001 x254002 x254003 x254004 x254005
def colophonref10_Find.l1 : Nat → ByteArray → Int → List (S35) → Int → Int → Int → Int → Int → Int → Int → Int → ByteArray → Int → Int → Int → Int → Option ((List (S35)) × Int × Int)
  | 0, _, _, _, _, _, _, _, _, _, _, _, _, _, _, _, _ => none
  | k + 1, x0, x7, x244000, x244001, x244002, x245000, x245001, x245002, x250000, x250001, x254000, x254001, x254002, x254003, x254004, x254005 => if x7 = 7 then (if 0 ≤ (wrap64 ((x254001.size : Int) - 1)) then (if (wrap64 ((x254001.size : Int) - 1)) < (x254001.size : Int) then ((colophonref10_blank.f (bt x254001 (wrap64 ((x254001.size : Int) - 1)))).bind fun t255 => (if t255 = true then (if (wrap64 ((x254001.size : Int) - 1)) ≤ (x254001.size : Int) then (colophonref10_Find.l1 k x0 x7 x244000 x244001 x244002 x245000 x245001 x245002 x250000 x250001 x254000 (cutS x254001 0 ((wrap64 ((x254001.size : Int) - 1)) : Int).toNat) x254002 x254003 x254004 x254005) else (none)) else (if x244000.length < 2513169434916 then (colophonref10_Find.l0 k x0 0 x250000 (x244000 ++ [(⟨x254000, x254001, (⟨x254002, x254003, x254004⟩ : S26), x254005⟩ : S35)]) x244001 x244002 x245000 x245001 x245002) else (none)))) else (none)) else (none)) else (if x244000.length < 2513169434916 then (colophonref10_Find.l0 k x0 0 x250000 (x244000 ++ [(⟨x254000, x254001, (⟨x254002, x254003, x254004⟩ : S26), x254005⟩ : S35)]) x244001 x244002 x245000 x245001 x245002) else (none))
end
def colophonref10_Find.f (k : Nat) (a0 : ByteArray) : Option ((List (S35)) × Int × Int) := colophonref10_Find.l0 k a0 0 0 ([] : List (S35)) 0 0 0 1 1
def colophonref10_Find.T20 : Bool × List (List Nat × List Nat) := (true, [([], []), ([], []), ([], []), ([2], [2]), ([], []), ([1, 3, 4], [1, 3, 4]), ([0, 5], [0, 5]), ([6, 6, 0, 1, 2, 3, 4, 5, 6], [6])])
def colophonref10_Find.B20 : List Nat := [0, 0, 0, 4, 0, 30, 63, 127]
theorem colophonref10_Find.tab20 : rtab .any (opsOf Tryd.f41 20) = colophonref10_Find.T20 := by kernel_rfl
theorem colophonref10_Find.bits20 : waitsOk colophonref10_Find.T20.2 colophonref10_Find.B20 = true := by kernel_rfl
def colophonref10_Find.T21 : Bool × List (List Nat × List Nat) := (true, [([], []), ([], []), ([], []), ([], []), ([3], [3]), ([1, 2, 4], [1, 2, 4]), ([], []), ([], []), ([0, 5, 6, 7], [0, 5, 6, 7]), ([], []), ([9, 8, 0, 1, 2, 3, 4, 5, 6, 7, 8, 9], [8, 9])])
def colophonref10_Find.B21 : List Nat := [0, 0, 0, 0, 8, 30, 0, 0, 255, 0, 1023]
theorem colophonref10_Find.tab21 : rtab .any (opsOf Tryd.f41 21) = colophonref10_Find.T21 := by kernel_rfl
theorem colophonref10_Find.bits21 : waitsOk colophonref10_Find.T21.2 colophonref10_Find.B21 = true := by kernel_rfl
set_option maxHeartbeats 8000000 in
set_option maxRecDepth 100000 in
theorem colophonref10_Find.calls (k : Nat) (a0 : ByteArray) (r1 : List (S35)) (r2 : Int) (r3 : Int) (w : World) (h : colophonref10_Find.f k a0 = some (r1, r2, r3)) :
    Calls Tryd.prog 41 #[.string a0] w fun e w' => ∃ v0_ : Value, e = .returned (.agg #[v0_, .int .i64 r2, .int .i64 r3]) ∧ Kd.R k35 35 w' w.heap.size (fun _ => True) v0_ r1 ∧ Below w.heap.size w w' := by
  have hu73 := Tryd.underlying73
  have hu26 := Tryd.underlying26
  have hu113 := Tryd.underlying113
  have hu35 := Tryd.underlying35
  have HB := Aside0.mk (Below.refl w.heap.size w)
  have H : (colophonref10_Find.l0 k a0 0 0 ([] : List (S35)) 0 0 0 1 1) = some (r1, r2, r3) := h
  clear h
  have H' := Aside0.mk H
  clear H
  go_enter Tryd.func41, Tryd.ntmps41
  go_wp2_with (first | ((with_reducible refine gate_dst (N := 2) rfl ?_); (try (refine gate_guard (by rfl) ?_; dsimp only)); refine box_event ?hg (N := 2) ?hd (cs := #[.slice none 0 0, .int .i64 0, .int .i64 0]) (t := 73) ?hr ?_; (case hd => rfl); (case hg => rfl); (case hr => first | (go_simp; done) | (go_simp; rfl)); intro gb242 hg w2 hbox hb; have n0_ := Aside0.mk (below_step (by repeat (first | (with_reducible first | exact HB.out | apply below_alloc | apply pw_below_drewN | apply below_drew1) | exact HB.out)) hb); have n1_ := Aside0.mk (hbox); have n2_ := Aside0.mk ((by rw [hg]; exact (below_size (by repeat (first | (with_reducible first | exact HB.out | apply below_alloc | apply pw_below_drewN | apply below_drew1) | exact HB.out))) : w.heap.size ≤ gb242)); have n3_ := Aside0.mk ((by rw [hg]; exact (below_size (by repeat (first | (with_reducible first | exact HB.out | apply below_alloc | apply pw_below_drewN | apply below_drew1) | exact HB.out))) : w.heap.size ≤ gb242)); clear HB; have HB := n0_; have BK242 := n1_; have GW242 := n2_; have GE242 := n3_; clear n0_ n1_ n2_ n3_; clear hb hbox hg) | ((with_reducible refine gate_dst (N := 3) rfl ?_); (try (refine gate_guard (by rfl) ?_; dsimp only)); refine box_event ?hg (N := 3) ?hd (cs := #[.slice none 0 0, .int .i64 0, .int .i64 0]) (t := 73) ?hr ?_; (case hd => rfl); (case hg => rfl); (case hr => first | (go_simp; done) | (go_simp; rfl)); intro gb243 hg w3 hbox hb; have n0_ := Aside0.mk (blk_below (g := gb242) (o := .cells #[.slice none 0 0, .int .i64 0, .int .i64 0] 73 (0, 0)) (by (with_reducible repeat (first | refine blk_drewN ?_ _ | refine blk_drew ?_ | refine blk_alloc ?_ _)); exact BK242.out) hb); have n1_ := Aside0.mk (below_step (by repeat (first | (with_reducible first | exact HB.out | apply below_alloc | apply pw_below_drewN | apply below_drew1 | refine below_set ?_ GE242.out) | exact HB.out)) hb); have n2_ := Aside0.mk (hbox); have n3_ := Aside0.mk ((by rw [hg]; exact (below_size (by repeat (first | (with_reducible first | exact HB.out | apply below_alloc | apply pw_below_drewN | apply below_drew1 | refine below_set ?_ GE242.out) | exact HB.out))) : w.heap.size ≤ gb243)); have n4_ := Aside0.mk ((by rw [hg]; exact (below_size (by repeat (first | (with_reducible first | exact HB.out | apply below_alloc | apply pw_below_drewN | apply below_drew1 | refine below_set ?_ GE242.out) | exact HB.out))) : w.heap.size ≤ gb243)); have n5_ := Aside0.mk ((by rw [hg]; exact Nat.ne_of_lt (blk_lt (g := gb242) (o := .cells #[.slice none 0 0, .int .i64 0, .int .i64 0] 73 (0, 0)) (by (with_reducible repeat (first | refine blk_drewN ?_ _ | refine blk_drew ?_ | refine blk_alloc ?_ _)); exact BK242.out)) : gb242 ≠ gb243)); have n6_ := Aside0.mk ((by rw [hg]; exact Nat.ne_of_gt (blk_lt (g := gb242) (o := .cells #[.slice none 0 0, .int .i64 0, .int .i64 0] 73 (0, 0)) (by (with_reducible repeat (first | refine blk_drewN ?_ _ | refine blk_drew ?_ | refine blk_alloc ?_ _)); exact BK242.out)) : gb243 ≠ gb242)); clear BK242; clear HB; have BK242 := n0_; have HB := n1_; have BK243 := n2_; have GW243 := n3_; have GE243 := n4_; have NB242_243 := n5_; have NB243_242 := n6_; clear n0_ n1_ n2_ n3_ n4_ n5_ n6_; clear hb hbox hg; have hnb4 := NB243_242.out; have hnc4 := NB242_243.out; have hcz5_0 : w3.cell? ⟨gb243, 0, none⟩ = some (.slice none 0 0) := (blk_cell BK243.out 0).trans rfl; have hcz5_1 : w3.cell? ⟨gb243, 1, none⟩ = some (.int .i64 0) := (blk_cell BK243.out 1).trans rfl; have hcz5_2 : w3.cell? ⟨gb243, 2, none⟩ = some (.int .i64 0) := (blk_cell BK243.out 2).trans rfl; have hfz5_0 := blk_frozen BK243.out 0; have hfz5_1 := blk_frozen BK243.out 1; have hfz5_2 := blk_frozen BK243.out 2) | ((with_reducible refine gate_dst (N := 4) rfl ?_); (try (refine gate_guard (by rfl) ?_; dsimp only)); refine box_event ?hg (N := 4) ?hd (cs := #[.int .i64 0, .int .i64 0, .int .i64 0]) (t := 26) ?hr ?_; (case hd => rfl); (case hg => rfl); (case hr => first | (go_simp; done) | (go_simp; rfl)); intro gb244 hg w6 hbox hb; have n0_ := Aside0.mk (blk_below (g := gb242) (o := .cells #[.slice none 0 0, .int .i64 0, .int .i64 0] 73 (0, 0)) (by (with_reducible repeat (first | refine blk_drewN ?_ _ | refine blk_drew ?_ | refine blk_alloc ?_ _)); refine blk_far ?_ NB242_243.out _; (with_reducible repeat (first | refine blk_drewN ?_ _ | refine blk_drew ?_ | refine blk_alloc ?_ _)); refine blk_far ?_ NB242_243.out _; (with_reducible repeat (first | refine blk_drewN ?_ _ | refine blk_drew ?_ | refine blk_alloc ?_ _)); refine blk_far ?_ NB242_243.out _; (with_reducible repeat (first | refine blk_drewN ?_ _ | refine blk_drew ?_ | refine blk_alloc ?_ _)); exact BK242.out) hb); have n1_ := Aside0.mk (blk_below (g := gb243) (o := .cells #[.slice none 0 0, .int .i64 0, .int .i64 0] 73 (0, 0)) (by (with_reducible repeat (first | refine blk_drewN ?_ _ | refine blk_drew ?_ | refine blk_alloc ?_ _)); refine blk_put (cs := #[.slice none 0 0, .int .i64 0, .int .i64 0]) ?_ 2 _ rfl; (with_reducible repeat (first | refine blk_drewN ?_ _ | refine blk_drew ?_ | refine blk_alloc ?_ _)); refine blk_put (cs := #[.slice none 0 0, .int .i64 0, .int .i64 0]) ?_ 1 _ rfl; (with_reducible repeat (first | refine blk_drewN ?_ _ | refine blk_drew ?_ | refine blk_alloc ?_ _)); refine blk_put (cs := #[.slice none 0 0, .int .i64 0, .int .i64 0]) ?_ 0 _ rfl; (with_reducible repeat (first | refine blk_drewN ?_ _ | refine blk_drew ?_ | refine blk_alloc ?_ _)); exact BK243.out) hb); have n2_ := Aside0.mk (below_step (by repeat (first | (with_reducible first | exact HB.out | apply below_alloc | apply pw_below_drewN | apply below_drew1 | refine below_set ?_ GE242.out | refine below_set ?_ GE243.out) | exact HB.out)) hb); have n3_ := Aside0.mk (hbox); have n4_ := Aside0.mk ((by rw [hg]; exact (below_size (by repeat (first | (with_reducible first | exact HB.out | apply below_alloc | apply pw_below_drewN | apply below_drew1 | refine below_set ?_ GE242.out | refine below_set ?_ GE243.out) | exact HB.out))) : w.heap.size ≤ gb244)); have n5_ := Aside0.mk ((by rw [hg]; exact (below_size (by repeat (first | (with_reducible first | exact HB.out | apply below_alloc | apply pw_below_drewN | apply below_drew1 | refine below_set ?_ GE242.out | refine below_set ?_ GE243.out) | exact HB.out))) : w.heap.size ≤ gb244)); have n6_ := Aside0.mk ((by rw [hg]; exact Nat.ne_of_lt (blk_lt (g := gb242) (o := .cells #[.slice none 0 0, .int .i64 0, .int .i64 0] 73 (0, 0)) (by (with_reducible repeat (first | refine blk_drewN ?_ _ | refine blk_drew ?_ | refine blk_alloc ?_ _)); refine blk_far ?_ NB242_243.out _; (with_reducible repeat (first | refine blk_drewN ?_ _ | refine blk_drew ?_ | refine blk_alloc ?_ _)); refine blk_far ?_ NB242_243.out _; (with_reducible repeat (first | refine blk_drewN ?_ _ | refine blk_drew ?_ | refine blk_alloc ?_ _)); refine blk_far ?_ NB242_243.out _; (with_reducible repeat (first | refine blk_drewN ?_ _ | refine blk_drew ?_ | refine blk_alloc ?_ _)); exact BK242.out)) : gb242 ≠ gb244)); have n7_ := Aside0.mk ((by rw [hg]; exact Nat.ne_of_gt (blk_lt (g := gb242) (o := .cells #[.slice none 0 0, .int .i64 0, .int .i64 0] 73 (0, 0)) (by (with_reducible repeat (first | refine blk_drewN ?_ _ | refine blk_drew ?_ | refine blk_alloc ?_ _)); refine blk_far ?_ NB242_243.out _; (with_reducible repeat (first | refine blk_drewN ?_ _ | refine blk_drew ?_ | refine blk_alloc ?_ _)); refine blk_far ?_ NB242_243.out _; (with_reducible repeat (first | refine blk_drewN ?_ _ | refine blk_drew ?_ | refine blk_alloc ?_ _)); refine blk_far ?_ NB242_243.out _; (with_reducible repeat (first | refine blk_drewN ?_ _ | refine blk_drew ?_ | refine blk_alloc ?_ _)); exact BK242.out)) : gb244 ≠ gb242)); have n8_ := Aside0.mk ((by rw [hg]; exact Nat.ne_of_lt (blk_lt (g := gb243) (o := .cells #[.slice none 0 0, .int .i64 0, .int .i64 0] 73 (0, 0)) (by (with_reducible repeat (first | refine blk_drewN ?_ _ | refine blk_drew ?_ | refine blk_alloc ?_ _)); refine blk_put (cs := #[.slice none 0 0, .int .i64 0, .int .i64 0]) ?_ 2 _ rfl; (with_reducible repeat (first | refine blk_drewN ?_ _ | refine blk_drew ?_ | refine blk_alloc ?_ _)); refine blk_put (cs := #[.slice none 0 0, .int .i64 0, .int .i64 0]) ?_ 1 _ rfl; (with_reducible repeat (first | refine blk_drewN ?_ _ | refine blk_drew ?_ | refine blk_alloc ?_ _)); refine blk_put (cs := #[.slice none 0 0, .int .i64 0, .int .i64 0]) ?_ 0 _ rfl; (with_reducible repeat (first | refine blk_drewN ?_ _ | refine blk_drew ?_ | refine blk_alloc ?_ _)); exact BK243.out)) : gb243 ≠ gb244)); have n9_ := Aside0.mk ((by rw [hg]; exact Nat.ne_of_gt (blk_lt (g := gb243) (o := .cells #[.slice none 0 0, .int .i64 0, .int .i64 0] 73 (0, 0)) (by (with_reducible repeat (first | refine blk_drewN ?_ _ | refine blk_drew ?_ | refine blk_alloc ?_ _)); refine blk_put (cs := #[.slice none 0 0, .int .i64 0, .int .i64 0]) ?_ 2 _ rfl; (with_reducible repeat (first | refine blk_drewN ?_ _ | refine blk_drew ?_ | refine blk_alloc ?_ _)); refine blk_put (cs := #[.slice none 0 0, .int .i64 0, .int .i64 0]) ?_ 1 _ rfl; (with_reducible repeat (first | refine blk_drewN ?_ _ | refine blk_drew ?_ | refine blk_alloc ?_ _)); refine blk_put (cs := #[.slice none 0 0, .int .i64 0, .int .i64 0]) ?_ 0 _ rfl; (with_reducible repeat (first | refine blk_drewN ?_ _ | refine blk_drew ?_ | refine blk_alloc ?_ _)); exact BK243.out)) : gb244 ≠ gb243)); clear BK242; clear BK243; clear HB; have BK242 := n0_; have BK243 := n1_; have HB := n2_; have BK244 := n3_; have GW244 := n4_; have GE244 := n5_; have NB242_244 := n6_; have NB244_242 := n7_; have NB243_244 := n8_; have NB244_243 := n9_; clear n0_ n1_ n2_ n3_ n4_ n5_ n6_ n7_ n8_ n9_; clear hb hbox hg; have hnb7 := NB244_242.out; have hnc7 := NB242_244.out; have hnb8 := NB244_243.out; have hnc8 := NB243_244.out; have hcz9_0 : w6.cell? ⟨gb244, 0, none⟩ = some (.int .i64 0) := (blk_cell BK244.out 0).trans rfl; have hcz9_1 : w6.cell? ⟨gb244, 1, none⟩ = some (.int .i64 0) := (blk_cell BK244.out 1).trans rfl; have hcz9_2 : w6.cell? ⟨gb244, 2, none⟩ = some (.int .i64 0) := (blk_cell BK244.out 2).trans rfl; have hfz9_0 := blk_frozen BK244.out 0; have hfz9_1 := blk_frozen BK244.out 1; have hfz9_2 := blk_frozen BK244.out 2))
  go_loopg [5, 6] k (fun kq v5 v6 w' => ∃ (x5_1 : Int) (x6_1 : Int) (x243001_1 : Int) (x243002_1 : Int) (x244000_1 : List (S35)) (x244001_1 : Int) (x244002_1 : Int) (x245000_1 : Int) (x245001_1 : Int) (x245002_1 : Int) (u244000 : Value), v5 = .int .i64 x5_1 ∧ v6 = .int .i64 x6_1 ∧ Aside0 (colophonref10_Find.l0 kq a0 x5_1 x6_1 x244000_1 x244001_1 x244002_1 x245000_1 x245001_1 x245002_1 = some (r1, r2, r3)) ∧ Aside0 (kq ≤ k) ∧ Aside0 (Kd.R k35 35 w' w.heap.size (fun _ => True) u244000 x244000_1) ∧ Aside0 (w'.heap[gb242]? = some (.cells #[(.slice none 0 0), .int .i64 x243001_1, .int .i64 x243002_1] 73 (0, 0))) ∧ Aside0 (w'.heap[gb243]? = some (.cells #[u244000, .int .i64 x244001_1, .int .i64 x244002_1] 73 (0, 0))) ∧ Aside0 (w'.heap[gb244]? = some (.cells #[.int .i64 x245000_1, .int .i64 x245001_1, .int .i64 x245002_1] 26 (0, 0))) ∧ Aside0 (Below w.heap.size w w'))
  case atStart => exact ⟨(0), (0), (0), (0), (([] : List (S35))), (0), (0), (0), (1), (1), (.slice none 0 0), (by first | rfl | (simp; done) | (simp [*]; done)), (by first | rfl | (simp; done) | (simp [*]; done)), H', ⟨Nat.le_refl _⟩, ⟨by first | exact Kd.R_nil _ _ _ _ _ | exact Kd.N_nil _ _ _ _ _ | exact Kd.V_nil _ _ _ _ _ | exact Kd.Q_nil _ _ _ _ _ | exact Kd.S_nil _ _ _ _ _⟩, ⟨by (with_reducible repeat (first | refine blk_drewN ?_ _ | refine blk_drew ?_ | refine blk_alloc ?_ _)); refine blk_far ?_ NB242_244.out _; (with_reducible repeat (first | refine blk_drewN ?_ _ | refine blk_drew ?_ | refine blk_alloc ?_ _)); refine blk_far ?_ NB242_244.out _; (with_reducible repeat (first | refine blk_drewN ?_ _ | refine blk_drew ?_ | refine blk_alloc ?_ _)); refine blk_far ?_ NB242_244.out _; (with_reducible repeat (first | refine blk_drewN ?_ _ | refine blk_drew ?_ | refine blk_alloc ?_ _)); exact BK242.out⟩, ⟨by (with_reducible repeat (first | refine blk_drewN ?_ _ | refine blk_drew ?_ | refine blk_alloc ?_ _)); refine blk_far ?_ NB243_244.out _; (with_reducible repeat (first | refine blk_drewN ?_ _ | refine blk_drew ?_ | refine blk_alloc ?_ _)); refine blk_far ?_ NB243_244.out _; (with_reducible repeat (first | refine blk_drewN ?_ _ | refine blk_drew ?_ | refine blk_alloc ?_ _)); refine blk_far ?_ NB243_244.out _; (with_reducible repeat (first | refine blk_drewN ?_ _ | refine blk_drew ?_ | refine blk_alloc ?_ _)); exact BK243.out⟩, ⟨by (with_reducible repeat (first | refine blk_drewN ?_ _ | refine blk_drew ?_ | refine blk_alloc ?_ _)); refine blk_put (cs := #[.int .i64 0, .int .i64 1, .int .i64 0]) ?_ 2 _ rfl; (with_reducible repeat (first | refine blk_drewN ?_ _ | refine blk_drew ?_ | refine blk_alloc ?_ _)); refine blk_put (cs := #[.int .i64 0, .int .i64 0, .int .i64 0]) ?_ 1 _ rfl; (with_reducible repeat (first | refine blk_drewN ?_ _ | refine blk_drew ?_ | refine blk_alloc ?_ _)); refine blk_put (cs := #[.int .i64 0, .int .i64 0, .int .i64 0]) ?_ 0 _ rfl; (with_reducible repeat (first | refine blk_drewN ?_ _ | refine blk_drew ?_ | refine blk_alloc ?_ _)); exact BK244.out⟩, ⟨by repeat (first | (with_reducible first | exact HB.out | apply below_alloc | apply pw_below_drewN | apply below_drew1 | refine below_set ?_ GE242.out | refine below_set ?_ GE243.out | refine below_set ?_ GE244.out) | exact HB.out)⟩⟩
  case round =>
    clear H'
    try clear p2
    try clear c4
    try clear c7
    try clear c8
    try clear hcz5_0
    try clear hcz5_1
    try clear hcz5_2
    try clear hcz9_0
    try clear hcz9_1
    try clear hcz9_2
    try clear hfz5_0
    try clear hfz5_1
    try clear hfz5_2
    try clear hfz9_0
    try clear hfz9_1
    try clear hfz9_2
    obtain ⟨x5_1, x6_1, x243001_1, x243002_1, x244000_1, x244001_1, x244002_1, x245000_1, x245001_1, x245002_1, u244000, rfl, rfl, HA, HK1, HO_244000, BK242, BK243, BK244, HB⟩ := hrel
    cases gk with
    | zero => exact absurd HA.out (by simp [colophonref10_Find.l0])
    | succ k1 =>
      have H := HA.out
      clear HA
      simp only [colophonref10_Find.l0] at H
      by_cases c10 : x6_1 < (a0.size : Int)
      · rw [if_pos c10] at H
        have c10b0 : decide (x6_1 < (a0.size : Int)) = true := decide_eq_true c10
        clear c10
        by_cases c11 : 0 ≤ x6_1
        · rw [if_pos c11] at H
          have c11b0 : decide (0 ≤ x6_1) = true := decide_eq_true c11
          clear c11
          have HC13 := Aside0.mk H
          clear H
          have p12 : 0 ≤ (x6_1 : Int) := of_decide_eq_true (by first | (with_reducible assumption) | assumption)
          have q12 : x6_1 < (a0.size : Int) := of_decide_eq_true (by first | (with_reducible assumption) | assumption)
          have hx12 := bt_at a0 x6_1
          replace p12 := eq_true p12
          replace q12 := eq_true q12
          go_upto_if 20 with (fail)
          go_cut [5] (fun v5 wc => ∃ (kq : Nat) (x5_12 : Int), v5 = .int .i64 x5_12 ∧ Aside0 (colophonref10_Find.j1 kq a0 x5_12 x6_1 x244000_1 x244001_1 x244002_1 x245000_1 x245001_1 x245002_1 = some (r1, r2, r3)) ∧ Aside0 (kq ≤ k1) ∧ Aside0 (Kd.R k35 35 wc w.heap.size (fun _ => True) u244000 x244000_1) ∧ Aside0 (wc.heap[gb242]? = some (.cells #[(.slice none 0 0), .int .i64 x243001_1, .int .i64 x243002_1] 73 (0, 0))) ∧ Aside0 (wc.heap[gb243]? = some (.cells #[u244000, .int .i64 x244001_1, .int .i64 x244002_1] 73 (0, 0))) ∧ Aside0 (wc.heap[gb244]? = some (.cells #[.int .i64 x245000_1, .int .i64 x245001_1, .int .i64 x245002_1] 26 (0, 0))) ∧ Aside0 (Below w.heap.size w wc))
          case first =>
            have H := HC13.out
            clear HC13
            by_cases c14 : (bt a0 x6_1) = 10
            · rw [if_pos c14] at H
              have c14b0 : ((bt a0 x6_1) == 10) = true := beq_iff_eq.mpr c14
              have c14b1 : ((bt a0 x6_1) != 10) = false := bne_eq_false_iff_eq.mpr c14
              clear c14
              (first | rw [c14b0] | (simp only [i64_w, i32_w]; rw [c14b0]) | skip)
              have H' := Aside0.mk H
              clear H
              go_wp2
              go_meet
              case rel => exact ⟨_, (wrap64 (x5_1 + 1)), (by first | rfl | (simp; done) | (simp [*]; done)), H', ⟨by have := HK1.out; first | omega | exact Nat.le_refl _⟩, ⟨by (with_reducible repeat (first | apply Kd.R_alloc | apply Kd.R_drewN | apply Kd.R_drew)); exact HO_244000.out⟩, ⟨by (with_reducible repeat (first | refine blk_drewN ?_ _ | refine blk_drew ?_ | refine blk_alloc ?_ _)); exact BK242.out⟩, ⟨by (with_reducible repeat (first | refine blk_drewN ?_ _ | refine blk_drew ?_ | refine blk_alloc ?_ _)); exact BK243.out⟩, ⟨by (with_reducible repeat (first | refine blk_drewN ?_ _ | refine blk_drew ?_ | refine blk_alloc ?_ _)); exact BK244.out⟩, ⟨by repeat (first | (with_reducible first | exact HB.out | apply below_alloc | apply pw_below_drewN | apply below_drew1 | refine below_set ?_ GE242.out | refine below_set ?_ GE243.out | refine below_set ?_ GE244.out) | exact HB.out)⟩⟩
            · rw [if_neg c14] at H
              have c14b0 : ((bt a0 x6_1) == 10) = false := beq_eq_false_iff_ne.mpr c14
              have c14b1 : ((bt a0 x6_1) != 10) = true := bne_iff_ne.mpr c14
              (first | rw [c14b0] | (simp only [i64_w, i32_w]; rw [c14b0]) | skip)
              have H' := Aside0.mk H
              clear H
              go_wp2
              go_meet
              case rel => exact ⟨_, (x5_1), (by first | rfl | (simp; done) | (simp [*]; done)), H', ⟨by have := HK1.out; first | omega | exact Nat.le_refl _⟩, ⟨by (with_reducible repeat (first | apply Kd.R_alloc | apply Kd.R_drewN | apply Kd.R_drew)); exact HO_244000.out⟩, ⟨by (with_reducible repeat (first | refine blk_drewN ?_ _ | refine blk_drew ?_ | refine blk_alloc ?_ _)); exact BK242.out⟩, ⟨by (with_reducible repeat (first | refine blk_drewN ?_ _ | refine blk_drew ?_ | refine blk_alloc ?_ _)); exact BK243.out⟩, ⟨by (with_reducible repeat (first | refine blk_drewN ?_ _ | refine blk_drew ?_ | refine blk_alloc ?_ _)); exact BK244.out⟩, ⟨by repeat (first | (with_reducible first | exact HB.out | apply below_alloc | apply pw_below_drewN | apply below_drew1 | refine below_set ?_ GE242.out | refine below_set ?_ GE243.out | refine below_set ?_ GE244.out) | exact HB.out)⟩⟩
          case rest =>
            clear HC13
            try clear c1
            try clear p1
            try clear q1
            try clear hx1
            try clear p2
            try clear c4
            try clear p6
            try clear c7
            try clear c8
            try clear c10
            try clear c10b0
            try clear c11
            try clear c11b0
            try clear p12
            try clear q12
            try clear hx12
            try clear c14
            try clear c14b0
            try clear c14b1
            try clear hcz5_0
            try clear hcz5_1
            try clear hcz5_2
            try clear hcz9_0
            try clear hcz9_1
            try clear hcz9_2
            try clear hfz5_0
            try clear hfz5_1
            try clear hfz5_2
            try clear hfz9_0
            try clear hfz9_1
            try clear hfz9_2
            try clear p12
            try clear p2
            try clear q12
            obtain ⟨kq, x5_12, rfl, HA, HJ12, HO_244000, BK242, BK243, BK244, HB⟩ := hcut
            cases kq with
            | zero => exact absurd HA.out (by simp [colophonref10_Find.j1])
            | succ kj12 =>
              have H := HA.out
              clear HA
              simp only [colophonref10_Find.j1] at H
              have HC15 := Aside0.mk H
              clear H
              go_upto_region 8 with (fail)
              go_cut [32] (fun v32 wc => ∃ (kq : Nat) (x32_14 : Bool), v32 = .bool x32_14 ∧ Aside0 (colophonref10_Find.j2 kq a0 x5_12 x6_1 x32_14 x244000_1 x244001_1 x244002_1 x245000_1 x245001_1 x245002_1 = some (r1, r2, r3)) ∧ Aside0 (kq ≤ kj12) ∧ Aside0 (Kd.R k35 35 wc w.heap.size (fun _ => True) u244000 x244000_1) ∧ Aside0 (wc.heap[gb242]? = some (.cells #[(.slice none 0 0), .int .i64 x243001_1, .int .i64 x243002_1] 73 (0, 0))) ∧ Aside0 (wc.heap[gb243]? = some (.cells #[u244000, .int .i64 x244001_1, .int .i64 x244002_1] 73 (0, 0))) ∧ Aside0 (wc.heap[gb244]? = some (.cells #[.int .i64 x245000_1, .int .i64 x245001_1, .int .i64 x245002_1] 26 (0, 0))) ∧ Aside0 (Below w.heap.size w wc))
              case first =>
                have H := HC15.out
                clear HC15
                by_cases c16 : 0 ≤ x6_1
                · rw [if_pos c16] at H
                  have c16b0 : decide (0 ≤ x6_1) = true := decide_eq_true c16
                  clear c16
                  (first | rw [c16b0] | (simp only [i64_w, i32_w]; rw [c16b0]) | skip)
                  by_cases c17 : x6_1 < (a0.size : Int)
                  · rw [if_pos c17] at H
                    have c17b0 : decide (x6_1 < (a0.size : Int)) = true := decide_eq_true c17
                    clear c17
                    by_cases c19 : (bt a0 x6_1) = 10
                    · rw [if_pos c19] at H
                      have c19b0 : ((bt a0 x6_1) == 10) = true := beq_iff_eq.mpr c19
                      have c19b1 : ((bt a0 x6_1) != 10) = false := bne_eq_false_iff_eq.mpr c19
                      clear c19
                      have H' := Aside0.mk H
                      clear H
                      have p18 : 0 ≤ (x6_1 : Int) := of_decide_eq_true (by first | (with_reducible assumption) | assumption)
                      have q18 : x6_1 < (a0.size : Int) := of_decide_eq_true (by first | (with_reducible assumption) | assumption)
                      have hx18 := bt_at a0 x6_1
                      replace p18 := eq_true p18
                      replace q18 := eq_true q18
                      go_wp2
                      go_meet
                      case rel => exact ⟨_, (true), (by first | rfl | (simp; done) | (simp [*]; done)), H', ⟨by have := HK1.out; have := HJ12.out; first | omega | exact Nat.le_refl _⟩, ⟨by (with_reducible repeat (first | apply Kd.R_alloc | apply Kd.R_drewN | apply Kd.R_drew)); exact HO_244000.out⟩, ⟨by (with_reducible repeat (first | refine blk_drewN ?_ _ | refine blk_drew ?_ | refine blk_alloc ?_ _)); exact BK242.out⟩, ⟨by (with_reducible repeat (first | refine blk_drewN ?_ _ | refine blk_drew ?_ | refine blk_alloc ?_ _)); exact BK243.out⟩, ⟨by (with_reducible repeat (first | refine blk_drewN ?_ _ | refine blk_drew ?_ | refine blk_alloc ?_ _)); exact BK244.out⟩, ⟨by repeat (first | (with_reducible first | exact HB.out | apply below_alloc | apply pw_below_drewN | apply below_drew1 | refine below_set ?_ GE242.out | refine below_set ?_ GE243.out | refine below_set ?_ GE244.out) | exact HB.out)⟩⟩
                    · rw [if_neg c19] at H
                      have c19b0 : ((bt a0 x6_1) == 10) = false := beq_eq_false_iff_ne.mpr c19
                      have c19b1 : ((bt a0 x6_1) != 10) = true := bne_iff_ne.mpr c19
                      replace H := Option.bind_eq_some_iff.mp H
                      obtain ⟨t245, A210, H⟩ := H
                      replace H : (colophonref10_Find.j2 kj12 a0 x5_12 x6_1 t245 x244000_1 x244001_1 x244002_1 x245000_1 x245001_1 x245002_1) = some (r1, r2, r3) := H
                      have A21 := Aside0.mk A210
                      clear A210
                      have H' := Aside0.mk H
                      clear H
                      have p18 : 0 ≤ (x6_1 : Int) := of_decide_eq_true (by first | (with_reducible assumption) | assumption)
                      have q18 : x6_1 < (a0.size : Int) := of_decide_eq_true (by first | (with_reducible assumption) | assumption)
                      have hx18 := bt_at a0 x6_1
                      replace p18 := eq_true p18
                      replace q18 := eq_true q18
                      have p20 : 0 ≤ (x6_1 : Int) := of_decide_eq_true (by first | (with_reducible assumption) | assumption)
                      have q20 : x6_1 < (a0.size : Int) := of_decide_eq_true (by first | (with_reducible assumption) | assumption)
                      have hx20 := bt_at a0 x6_1
                      replace p20 := eq_true p20
                      replace q20 := eq_true q20
                      go_wp2_with (first | (go_at_call 85; (with_reducible refine (colophonref10_blank.calls (bt a0 x6_1) t245 _ A21.out).mono ?_); rintro e w22 ⟨rfl, hb⟩; have n0_ := Aside0.mk (Kd.R_below (by (with_reducible repeat (first | apply Kd.R_alloc | apply Kd.R_drewN | apply Kd.R_drew)); exact HO_244000.out) hb); have n1_ := Aside0.mk (blk_below (g := gb242) (o := .cells #[.slice none 0 0, .int .i64 x243001_1, .int .i64 x243002_1] 73 (0, 0)) (by (with_reducible repeat (first | refine blk_drewN ?_ _ | refine blk_drew ?_ | refine blk_alloc ?_ _)); exact BK242.out) hb); have n2_ := Aside0.mk (blk_below (g := gb243) (o := .cells #[u244000, .int .i64 x244001_1, .int .i64 x244002_1] 73 (0, 0)) (by (with_reducible repeat (first | refine blk_drewN ?_ _ | refine blk_drew ?_ | refine blk_alloc ?_ _)); exact BK243.out) hb); have n3_ := Aside0.mk (blk_below (g := gb244) (o := .cells #[.int .i64 x245000_1, .int .i64 x245001_1, .int .i64 x245002_1] 26 (0, 0)) (by (with_reducible repeat (first | refine blk_drewN ?_ _ | refine blk_drew ?_ | refine blk_alloc ?_ _)); exact BK244.out) hb); have n4_ := Aside0.mk (below_step (by repeat (first | (with_reducible first | exact HB.out | apply below_alloc | apply pw_below_drewN | apply below_drew1 | refine below_set ?_ GE242.out | refine below_set ?_ GE243.out | refine below_set ?_ GE244.out) | exact HB.out)) hb); clear HO_244000; clear BK242; clear BK243; clear BK244; clear HB; have HO_244000 := n0_; have BK242 := n1_; have BK243 := n2_; have BK244 := n3_; have HB := n4_; clear n0_ n1_ n2_ n3_ n4_; (try clear hb); (try clear hb2); (try clear hk); (try clear hi)))
                      go_meet
                      case rel => exact ⟨_, (t245), (by first | rfl | (simp; done) | (simp [*]; done)), H', ⟨by have := HK1.out; have := HJ12.out; first | omega | exact Nat.le_refl _⟩, ⟨by (with_reducible repeat (first | apply Kd.R_alloc | apply Kd.R_drewN | apply Kd.R_drew)); exact HO_244000.out⟩, ⟨by (with_reducible repeat (first | refine blk_drewN ?_ _ | refine blk_drew ?_ | refine blk_alloc ?_ _)); exact BK242.out⟩, ⟨by (with_reducible repeat (first | refine blk_drewN ?_ _ | refine blk_drew ?_ | refine blk_alloc ?_ _)); exact BK243.out⟩, ⟨by (with_reducible repeat (first | refine blk_drewN ?_ _ | refine blk_drew ?_ | refine blk_alloc ?_ _)); exact BK244.out⟩, ⟨by repeat (first | (with_reducible first | exact HB.out | apply below_alloc | apply pw_below_drewN | apply below_drew1 | refine below_set ?_ GE242.out | refine below_set ?_ GE243.out | refine below_set ?_ GE244.out) | exact HB.out)⟩⟩
                  · rw [if_neg c17] at H
                    exact absurd H (by simp)
                · rw [if_neg c16] at H
                  exact absurd H (by simp)
              case rest =>
                clear HC15
                try clear c1
                try clear p1
                try clear q1
                try clear hx1
                try clear p2
                try clear q2
                try clear hx2
                try clear c4
                try clear p6
                try clear c7
                try clear c8
                try clear c10
                try clear c10b0
                try clear c11
                try clear c11b0
                try clear p12
                try clear q12
                try clear hx12
                try clear c14
                try clear c14b0
                try clear c14b1
                try clear c16
                try clear c16b0
                try clear c17
                try clear c17b0
                try clear p18
                try clear q18
                try clear hx18
                try clear c19
                try clear c19b0
                try clear c19b1
                try clear p20
                try clear q20
                try clear hx20
                try clear hcz5_0
                try clear hcz5_1
                try clear hcz5_2
                try clear hcz9_0
                try clear hcz9_1
                try clear hcz9_2
                try clear hfz5_0
                try clear hfz5_1
                try clear hfz5_2
                try clear hfz9_0
                try clear hfz9_1
                try clear hfz9_2
                try clear p1
                try clear p12
                try clear p18
                try clear p2
                try clear p20
                try clear p6
                try clear q1
                try clear q12
                try clear q18
                try clear q20
                obtain ⟨kq, x32_14, rfl, HA, HJ14, HO_244000, BK242, BK243, BK244, HB⟩ := hcut
                cases kq with
                | zero => exact absurd HA.out (by simp [colophonref10_Find.j2])
                | succ kj14 =>
                  have H := HA.out
                  clear HA
                  simp only [colophonref10_Find.j2] at H
                  by_cases c23 : x32_14 = true
                  · subst c23
                    have H1 : (colophonref10_Find.l0 kj14 a0 x5_12 (wrap64 (x6_1 + 1)) x244000_1 x244001_1 x244002_1 x245000_1 x245001_1 x245002_1) = some (r1, r2, r3) := by rw [if_pos rfl] at H; exact H
                    clear H
                    have H := H1
                    clear H1
                    have H' := Aside0.mk H
                    clear H
                    go_wp2
                    go_roundg kj14
                    case measure => have := HK1.out; have := HJ12.out; have := HJ14.out; omega
                    case rel => exact ⟨(x5_12), (wrap64 (x6_1 + 1)), (x243001_1), (x243002_1), (x244000_1), (x244001_1), (x244002_1), (x245000_1), (x245001_1), (x245002_1), (u244000), (by first | rfl | (simp; done) | (simp [*]; done)), (by first | rfl | (simp; done) | (simp [*]; done)), H', ⟨by have := HK1.out; have := HJ12.out; have := HJ14.out; omega⟩, ⟨by (with_reducible repeat (first | apply Kd.R_alloc | apply Kd.R_drewN | apply Kd.R_drew)); exact HO_244000.out⟩, ⟨by (with_reducible repeat (first | refine blk_drewN ?_ _ | refine blk_drew ?_ | refine blk_alloc ?_ _)); exact BK242.out⟩, ⟨by (with_reducible repeat (first | refine blk_drewN ?_ _ | refine blk_drew ?_ | refine blk_alloc ?_ _)); exact BK243.out⟩, ⟨by (with_reducible repeat (first | refine blk_drewN ?_ _ | refine blk_drew ?_ | refine blk_alloc ?_ _)); exact BK244.out⟩, ⟨by repeat (first | (with_reducible first | exact HB.out | apply below_alloc | apply pw_below_drewN | apply below_drew1 | refine below_set ?_ GE242.out | refine below_set ?_ GE243.out | refine below_set ?_ GE244.out) | exact HB.out)⟩⟩
                  · replace c23 := Bool.eq_false_iff.mpr c23
                    subst c23
                    have H1 : ((colophonref10_begins.f kj14 a0 x6_1).bind fun t246 => (if t246 = 0 then (some (x244000_1, 100, x6_1)) else ((colophonref10_ends.f kj14 a0 x6_1 t246).bind fun bt247 => (if bt247.2 = 0 then (if 0 ≤ x245000_1 then (if x245000_1 ≤ x6_1 then (if x6_1 ≤ (a0.size : Int) then ((colophonref03_Advance.f x245000_1 x245001_1 x245002_1 (cutS a0 (x245000_1 : Int).toNat (x6_1 : Int).toNat)).bind fun bt250 => (if 0 ≤ x6_1 then (if x6_1 ≤ bt247.1 then (if bt247.1 ≤ (a0.size : Int) then ((colophonref04_IsKey.f kj14 (cutS a0 (x6_1 : Int).toNat (bt247.1 : Int).toNat)).bind fun t254 => (if t246 = 1 then (colophonref10_Find.j3 kj14 a0 t246 t254 x244000_1 x244001_1 x244002_1 bt250.1 bt250.2.1 bt250.2.2 bt247.1 bt247.2 t246 (cutS a0 (x6_1 : Int).toNat (bt247.1 : Int).toNat) bt250.1 bt250.2.1 bt250.2.2 x5_12) else (colophonref10_Find.j3 kj14 a0 t246 false x244000_1 x244001_1 x244002_1 bt250.1 bt250.2.1 bt250.2.2 bt247.1 bt247.2 t246 (cutS a0 (x6_1 : Int).toNat (bt247.1 : Int).toNat) bt250.1 bt250.2.1 bt250.2.2 x5_12))) else (none)) else (none)) else (none))) else (none)) else (none)) else (none)) else (some (x244000_1, bt247.2, bt247.1)))))) = some (r1, r2, r3) := by rw [if_neg (show ¬ (false = true) by decide)] at H; exact H
                    clear H
                    have H := H1
                    clear H1
                    replace H := Option.bind_eq_some_iff.mp H
                    obtain ⟨t246, A240, H⟩ := H
                    replace H : (if t246 = 0 then (some (x244000_1, 100, x6_1)) else ((colophonref10_ends.f kj14 a0 x6_1 t246).bind fun bt247 => (if bt247.2 = 0 then (if 0 ≤ x245000_1 then (if x245000_1 ≤ x6_1 then (if x6_1 ≤ (a0.size : Int) then ((colophonref03_Advance.f x245000_1 x245001_1 x245002_1 (cutS a0 (x245000_1 : Int).toNat (x6_1 : Int).toNat)).bind fun bt250 => (if 0 ≤ x6_1 then (if x6_1 ≤ bt247.1 then (if bt247.1 ≤ (a0.size : Int) then ((colophonref04_IsKey.f kj14 (cutS a0 (x6_1 : Int).toNat (bt247.1 : Int).toNat)).bind fun t254 => (if t246 = 1 then (colophonref10_Find.j3 kj14 a0 t246 t254 x244000_1 x244001_1 x244002_1 bt250.1 bt250.2.1 bt250.2.2 bt247.1 bt247.2 t246 (cutS a0 (x6_1 : Int).toNat (bt247.1 : Int).toNat) bt250.1 bt250.2.1 bt250.2.2 x5_12) else (colophonref10_Find.j3 kj14 a0 t246 false x244000_1 x244001_1 x244002_1 bt250.1 bt250.2.1 bt250.2.2 bt247.1 bt247.2 t246 (cutS a0 (x6_1 : Int).toNat (bt247.1 : Int).toNat) bt250.1 bt250.2.1 bt250.2.2 x5_12))) else (none)) else (none)) else (none))) else (none)) else (none)) else (none)) else (some (x244000_1, bt247.2, bt247.1))))) = some (r1, r2, r3) := H
                    have A24 := Aside0.mk A240
                    clear A240
                    by_cases c25 : t246 = 0
                    · rw [if_pos c25] at H
                      have c25b0 : (t246 == 0) = true := beq_iff_eq.mpr c25
                      have c25b1 : (t246 != 0) = false := bne_eq_false_iff_eq.mpr c25
                      clear c25
                      simp only [Option.some.injEq, Prod.mk.injEq] at H
                      obtain ⟨rfl, rfl, rfl⟩ := H
                      go_wp2_with (first | ((with_reducible refine gate_callee (f := 86) rfl ?_); refine goesL_ (some 37) rfl rfl Tryd.func86 (by kernel_rfl) rfl #[.string a0, .int .i64 x6_1] rfl (by (try simp only [List.map_toArray, List.map_cons, List.map_nil]); first | done | rfl | (simp only [List.length_drop, List.length_take]; rfl)) ?_; (with_reducible refine (colophonref10_begins.calls kj14 a0 x6_1 t246 _ A24.out).mono ?_); rintro e w26 ⟨rfl, hb⟩; refine ⟨_, rfl, ?_⟩; have n0_ := Aside0.mk (Kd.R_below (by (with_reducible repeat (first | apply Kd.R_alloc | apply Kd.R_drewN | apply Kd.R_drew)); exact HO_244000.out) hb); have n1_ := Aside0.mk (blk_below (g := gb242) (o := .cells #[.slice none 0 0, .int .i64 x243001_1, .int .i64 x243002_1] 73 (0, 0)) (by (with_reducible repeat (first | refine blk_drewN ?_ _ | refine blk_drew ?_ | refine blk_alloc ?_ _)); exact BK242.out) hb); have n2_ := Aside0.mk (blk_below (g := gb243) (o := .cells #[u244000, .int .i64 x244001_1, .int .i64 x244002_1] 73 (0, 0)) (by (with_reducible repeat (first | refine blk_drewN ?_ _ | refine blk_drew ?_ | refine blk_alloc ?_ _)); exact BK243.out) hb); have n3_ := Aside0.mk (blk_below (g := gb244) (o := .cells #[.int .i64 x245000_1, .int .i64 x245001_1, .int .i64 x245002_1] 26 (0, 0)) (by (with_reducible repeat (first | refine blk_drewN ?_ _ | refine blk_drew ?_ | refine blk_alloc ?_ _)); exact BK244.out) hb); have n4_ := Aside0.mk (below_step (by repeat (first | (with_reducible first | exact HB.out | apply below_alloc | apply pw_below_drewN | apply below_drew1 | refine below_set ?_ GE242.out | refine below_set ?_ GE243.out | refine below_set ?_ GE244.out) | exact HB.out)) hb); clear HO_244000; clear BK242; clear BK243; clear BK244; clear HB; have HO_244000 := n0_; have BK242 := n1_; have BK243 := n2_; have BK244 := n3_; have HB := n4_; clear n0_ n1_ n2_ n3_ n4_; (try clear hb); (try clear hb2); (try clear hk); (try clear hi); have hnb27 := NB243_242.out; have hnc27 := NB242_243.out; have hnb28 := NB243_244.out; have hnc28 := NB244_243.out; have hcz29_0 : w26.cell? ⟨gb243, 0, none⟩ = some (u244000) := (blk_cell BK243.out 0).trans rfl; have hcz29_1 : w26.cell? ⟨gb243, 1, none⟩ = some (.int .i64 x244001_1) := (blk_cell BK243.out 1).trans rfl; have hcz29_2 : w26.cell? ⟨gb243, 2, none⟩ = some (.int .i64 x244002_1) := (blk_cell BK243.out 2).trans rfl; have hfz29_0 := blk_frozen BK243.out 0; have hfz29_1 := blk_frozen BK243.out 1; have hfz29_2 := blk_frozen BK243.out 2; obtain ⟨Ao30, co30, eo30⟩ := Kd.R_slice HO_244000.out; subst eo30; have hnb31 := NB242_244.out; have hnc31 := NB244_242.out; have hcz32_0 : w26.cell? ⟨gb242, 0, none⟩ = some (.slice none 0 0) := (blk_cell BK242.out 0).trans rfl; have hcz32_1 : w26.cell? ⟨gb242, 1, none⟩ = some (.int .i64 x243001_1) := (blk_cell BK242.out 1).trans rfl; have hcz32_2 : w26.cell? ⟨gb242, 2, none⟩ = some (.int .i64 x243002_1) := (blk_cell BK242.out 2).trans rfl; have hfz32_0 := blk_frozen BK242.out 0; have hfz32_1 := blk_frozen BK242.out 1; have hfz32_2 := blk_frozen BK242.out 2))
                      refine bodyPost_ret (results_cell_row rfl _ _ gb242 73 #[.slice Ao30 x244000_1.length co30, .int .i64 100, .int .i64 x6_1] (0, 0) _ rfl (by (with_reducible repeat (first | refine blk_drewN ?_ _ | refine blk_drew ?_ | refine blk_alloc ?_ _)); refine blk_put (cs := #[.slice Ao30 x244000_1.length co30, .int .i64 100, .int .i64 x243002_1]) ?_ 2 _ rfl; (with_reducible repeat (first | refine blk_drewN ?_ _ | refine blk_drew ?_ | refine blk_alloc ?_ _)); refine blk_put (cs := #[.slice Ao30 x244000_1.length co30, .int .i64 x243001_1, .int .i64 x243002_1]) ?_ 1 _ rfl; (with_reducible repeat (first | refine blk_drewN ?_ _ | refine blk_drew ?_ | refine blk_alloc ?_ _)); refine blk_put (cs := #[.slice none 0 0, .int .i64 x243001_1, .int .i64 x243002_1]) ?_ 0 _ rfl; (with_reducible repeat (first | refine blk_drewN ?_ _ | refine blk_drew ?_ | refine blk_alloc ?_ _)); refine blk_far ?_ NB242_243.out _; (with_reducible repeat (first | refine blk_drewN ?_ _ | refine blk_drew ?_ | refine blk_alloc ?_ _)); refine blk_far ?_ NB242_243.out _; (with_reducible repeat (first | refine blk_drewN ?_ _ | refine blk_drew ?_ | refine blk_alloc ?_ _)); exact BK242.out) Tryd.underlying73 rfl (by kernel_rfl)) rfl ?_
                      exact ⟨_, by first | rfl | (simp [errW_none, errW_some] <;> rfl) | (simp [*, errW_none, errW_some] <;> rfl), by (with_reducible repeat (first | apply Kd.R_alloc | apply Kd.R_drewN | apply Kd.R_drew)); exact Kd.R_mono (Kd.R_far (p := ⟨gb242, 2, none⟩) (Kd.R_far (p := ⟨gb242, 1, none⟩) (Kd.R_far (p := ⟨gb242, 0, none⟩) (Kd.R_far (p := ⟨gb243, 2, none⟩) (Kd.R_far (p := ⟨gb243, 1, none⟩) (Kd.R_types (Kd.R_types HO_244000.out BK243.out (by decide)) BK242.out (by decide)) (fun _ hk => hk.1.2) (.int .i64 100)) (fun _ hk => hk.1.2) (.int .i64 x6_1)) (fun _ hk => hk.2) (.slice Ao30 x244000_1.length co30)) (fun _ hk => hk.2) (.int .i64 100)) (fun _ hk => hk.2) (.int .i64 x6_1)) (fun _ hk => trivial), by repeat (first | (with_reducible first | exact HB.out | apply below_alloc | apply pw_below_drewN | apply below_drew1 | refine below_set ?_ GE242.out | refine below_set ?_ GE243.out | refine below_set ?_ GE244.out) | exact HB.out)⟩
                    · rw [if_neg c25] at H
                      have c25b0 : (t246 == 0) = false := beq_eq_false_iff_ne.mpr c25
                      have c25b1 : (t246 != 0) = true := bne_iff_ne.mpr c25
                      replace H := Option.bind_eq_some_iff.mp H
                      obtain ⟨⟨t247, t248⟩, A330, H⟩ := H
                      replace H : (if t248 = 0 then (if 0 ≤ x245000_1 then (if x245000_1 ≤ x6_1 then (if x6_1 ≤ (a0.size : Int) then ((colophonref03_Advance.f x245000_1 x245001_1 x245002_1 (cutS a0 (x245000_1 : Int).toNat (x6_1 : Int).toNat)).bind fun bt250 => (if 0 ≤ x6_1 then (if x6_1 ≤ t247 then (if t247 ≤ (a0.size : Int) then ((colophonref04_IsKey.f kj14 (cutS a0 (x6_1 : Int).toNat (t247 : Int).toNat)).bind fun t254 => (if t246 = 1 then (colophonref10_Find.j3 kj14 a0 t246 t254 x244000_1 x244001_1 x244002_1 bt250.1 bt250.2.1 bt250.2.2 t247 t248 t246 (cutS a0 (x6_1 : Int).toNat (t247 : Int).toNat) bt250.1 bt250.2.1 bt250.2.2 x5_12) else (colophonref10_Find.j3 kj14 a0 t246 false x244000_1 x244001_1 x244002_1 bt250.1 bt250.2.1 bt250.2.2 t247 t248 t246 (cutS a0 (x6_1 : Int).toNat (t247 : Int).toNat) bt250.1 bt250.2.1 bt250.2.2 x5_12))) else (none)) else (none)) else (none))) else (none)) else (none)) else (none)) else (some (x244000_1, t248, t247))) = some (r1, r2, r3) := H
                      have A33 := Aside0.mk A330
                      clear A330
                      by_cases c34 : t248 = 0
                      · rw [if_pos c34] at H
                        have c34b0 : (t248 == 0) = true := beq_iff_eq.mpr c34
                        have c34b1 : (t248 != 0) = false := bne_eq_false_iff_eq.mpr c34
                        clear c34
                        by_cases c35 : 0 ≤ x245000_1
                        · rw [if_pos c35] at H
                          have c35b0 := eq_true c35
                          have c35b1 : decide (0 ≤ x245000_1) = true := decide_eq_true c35
                          clear c35
                          by_cases c36 : x245000_1 ≤ x6_1
                          · rw [if_pos c36] at H
                            have c36b0 := eq_true c36
                            have c36b1 : decide (x245000_1 ≤ x6_1) = true := decide_eq_true c36
                            clear c36
                            by_cases c37 : x6_1 ≤ (a0.size : Int)
                            · rw [if_pos c37] at H
                              have c37b0 := eq_true c37
                              have c37b1 : decide (x6_1 ≤ (a0.size : Int)) = true := decide_eq_true c37
                              clear c37
                              replace H := Option.bind_eq_some_iff.mp H
                              obtain ⟨⟨t250, t251, t252⟩, A380, H⟩ := H
                              replace H : (if 0 ≤ x6_1 then (if x6_1 ≤ t247 then (if t247 ≤ (a0.size : Int) then ((colophonref04_IsKey.f kj14 (cutS a0 (x6_1 : Int).toNat (t247 : Int).toNat)).bind fun t254 => (if t246 = 1 then (colophonref10_Find.j3 kj14 a0 t246 t254 x244000_1 x244001_1 x244002_1 t250 t251 t252 t247 t248 t246 (cutS a0 (x6_1 : Int).toNat (t247 : Int).toNat) t250 t251 t252 x5_12) else (colophonref10_Find.j3 kj14 a0 t246 false x244000_1 x244001_1 x244002_1 t250 t251 t252 t247 t248 t246 (cutS a0 (x6_1 : Int).toNat (t247 : Int).toNat) t250 t251 t252 x5_12))) else (none)) else (none)) else (none)) = some (r1, r2, r3) := H
                              have A38 := Aside0.mk A380
                              clear A380
                              by_cases c39 : 0 ≤ x6_1
                              · rw [if_pos c39] at H
                                have c39b0 := eq_true c39
                                have c39b1 : decide (0 ≤ x6_1) = true := decide_eq_true c39
                                clear c39
                                by_cases c40 : x6_1 ≤ t247
                                · rw [if_pos c40] at H
                                  have c40b0 := eq_true c40
                                  have c40b1 : decide (x6_1 ≤ t247) = true := decide_eq_true c40
                                  clear c40
                                  by_cases c41 : t247 ≤ (a0.size : Int)
                                  · rw [if_pos c41] at H
                                    have c41b0 := eq_true c41
                                    have c41b1 : decide (t247 ≤ (a0.size : Int)) = true := decide_eq_true c41
                                    clear c41
                                    replace H := Option.bind_eq_some_iff.mp H
                                    obtain ⟨t254, A420, H⟩ := H
                                    replace H : (if t246 = 1 then (colophonref10_Find.j3 kj14 a0 t246 t254 x244000_1 x244001_1 x244002_1 t250 t251 t252 t247 t248 t246 (cutS a0 (x6_1 : Int).toNat (t247 : Int).toNat) t250 t251 t252 x5_12) else (colophonref10_Find.j3 kj14 a0 t246 false x244000_1 x244001_1 x244002_1 t250 t251 t252 t247 t248 t246 (cutS a0 (x6_1 : Int).toNat (t247 : Int).toNat) t250 t251 t252 x5_12)) = some (r1, r2, r3) := H
                                    have A42 := Aside0.mk A420
                                    clear A420
                                    have HC43 := Aside0.mk H
                                    clear H
                                    try go_wp2_with (first | ((with_reducible refine gate_callee (f := 86) rfl ?_); refine goesL_ (some 37) rfl rfl Tryd.func86 (by kernel_rfl) rfl #[.string a0, .int .i64 x6_1] rfl (by (try simp only [List.map_toArray, List.map_cons, List.map_nil]); first | done | rfl | (simp only [List.length_drop, List.length_take]; rfl)) ?_; (with_reducible refine (colophonref10_begins.calls kj14 a0 x6_1 t246 _ A24.out).mono ?_); rintro e w44 ⟨rfl, hb⟩; refine ⟨_, rfl, ?_⟩; have n0_ := Aside0.mk (Kd.R_below (by (with_reducible repeat (first | apply Kd.R_alloc | apply Kd.R_drewN | apply Kd.R_drew)); exact HO_244000.out) hb); have n1_ := Aside0.mk (blk_below (g := gb242) (o := .cells #[.slice none 0 0, .int .i64 x243001_1, .int .i64 x243002_1] 73 (0, 0)) (by (with_reducible repeat (first | refine blk_drewN ?_ _ | refine blk_drew ?_ | refine blk_alloc ?_ _)); exact BK242.out) hb); have n2_ := Aside0.mk (blk_below (g := gb243) (o := .cells #[u244000, .int .i64 x244001_1, .int .i64 x244002_1] 73 (0, 0)) (by (with_reducible repeat (first | refine blk_drewN ?_ _ | refine blk_drew ?_ | refine blk_alloc ?_ _)); exact BK243.out) hb); have n3_ := Aside0.mk (blk_below (g := gb244) (o := .cells #[.int .i64 x245000_1, .int .i64 x245001_1, .int .i64 x245002_1] 26 (0, 0)) (by (with_reducible repeat (first | refine blk_drewN ?_ _ | refine blk_drew ?_ | refine blk_alloc ?_ _)); exact BK244.out) hb); have n4_ := Aside0.mk (below_step (by repeat (first | (with_reducible first | exact HB.out | apply below_alloc | apply pw_below_drewN | apply below_drew1 | refine below_set ?_ GE242.out | refine below_set ?_ GE243.out | refine below_set ?_ GE244.out) | exact HB.out)) hb); clear HO_244000; clear BK242; clear BK243; clear BK244; clear HB; have HO_244000 := n0_; have BK242 := n1_; have BK243 := n2_; have BK244 := n3_; have HB := n4_; clear n0_ n1_ n2_ n3_ n4_; (try clear hb); (try clear hb2); (try clear hk); (try clear hi)) | ((with_reducible refine gate_callee (f := 87) rfl ?_); refine goesL_ (some 47) rfl rfl Tryd.func87 (by kernel_rfl) rfl #[.string a0, .int .i64 x6_1, .int .u8 t246] rfl (by (try simp only [List.map_toArray, List.map_cons, List.map_nil]); first | done | rfl | (simp only [List.length_drop, List.length_take]; rfl)) ?_; (with_reducible refine (colophonref10_ends.calls kj14 a0 x6_1 t246 t247 t248 _ A33.out).mono ?_); rintro e w45 ⟨rfl, hb⟩; refine ⟨_, rfl, ?_⟩; have n0_ := Aside0.mk (Kd.R_below (by (with_reducible repeat (first | apply Kd.R_alloc | apply Kd.R_drewN | apply Kd.R_drew)); exact HO_244000.out) hb); have n1_ := Aside0.mk (blk_below (g := gb242) (o := .cells #[.slice none 0 0, .int .i64 x243001_1, .int .i64 x243002_1] 73 (0, 0)) (by (with_reducible repeat (first | refine blk_drewN ?_ _ | refine blk_drew ?_ | refine blk_alloc ?_ _)); exact BK242.out) hb); have n2_ := Aside0.mk (blk_below (g := gb243) (o := .cells #[u244000, .int .i64 x244001_1, .int .i64 x244002_1] 73 (0, 0)) (by (with_reducible repeat (first | refine blk_drewN ?_ _ | refine blk_drew ?_ | refine blk_alloc ?_ _)); exact BK243.out) hb); have n3_ := Aside0.mk (blk_below (g := gb244) (o := .cells #[.int .i64 x245000_1, .int .i64 x245001_1, .int .i64 x245002_1] 26 (0, 0)) (by (with_reducible repeat (first | refine blk_drewN ?_ _ | refine blk_drew ?_ | refine blk_alloc ?_ _)); exact BK244.out) hb); have n4_ := Aside0.mk (below_step (by repeat (first | (with_reducible first | exact HB.out | apply below_alloc | apply pw_below_drewN | apply below_drew1 | refine below_set ?_ GE242.out | refine below_set ?_ GE243.out | refine below_set ?_ GE244.out) | exact HB.out)) hb); clear HO_244000; clear BK242; clear BK243; clear BK244; clear HB; have HO_244000 := n0_; have BK242 := n1_; have BK243 := n2_; have BK244 := n3_; have HB := n4_; clear n0_ n1_ n2_ n3_ n4_; (try clear hb); (try clear hb2); (try clear hk); (try clear hi)) | ((with_reducible refine gate_dst (N := 8) rfl ?_); (try (refine gate_guard (by rfl) ?_; dsimp only)); refine box_event ?hg (N := 8) ?hd (cs := #[.int .i64 0, .int .i64 0]) (t := 113) ?hr ?_; (case hd => rfl); (case hg => rfl); (case hr => first | (go_simp; done) | (go_simp; rfl)); intro gb249 hg w46 hbox hb; have n0_ := Aside0.mk (Kd.R_below (by (with_reducible repeat (first | apply Kd.R_alloc | apply Kd.R_drewN | apply Kd.R_drew)); exact HO_244000.out) hb); have n1_ := Aside0.mk (blk_below (g := gb242) (o := .cells #[.slice none 0 0, .int .i64 x243001_1, .int .i64 x243002_1] 73 (0, 0)) (by (with_reducible repeat (first | refine blk_drewN ?_ _ | refine blk_drew ?_ | refine blk_alloc ?_ _)); exact BK242.out) hb); have n2_ := Aside0.mk (blk_below (g := gb243) (o := .cells #[u244000, .int .i64 x244001_1, .int .i64 x244002_1] 73 (0, 0)) (by (with_reducible repeat (first | refine blk_drewN ?_ _ | refine blk_drew ?_ | refine blk_alloc ?_ _)); exact BK243.out) hb); have n3_ := Aside0.mk (blk_below (g := gb244) (o := .cells #[.int .i64 x245000_1, .int .i64 x245001_1, .int .i64 x245002_1] 26 (0, 0)) (by (with_reducible repeat (first | refine blk_drewN ?_ _ | refine blk_drew ?_ | refine blk_alloc ?_ _)); exact BK244.out) hb); have n4_ := Aside0.mk (below_step (by repeat (first | (with_reducible first | exact HB.out | apply below_alloc | apply pw_below_drewN | apply below_drew1 | refine below_set ?_ GE242.out | refine below_set ?_ GE243.out | refine below_set ?_ GE244.out) | exact HB.out)) hb); have n5_ := Aside0.mk (hbox); have n6_ := Aside0.mk ((by rw [hg]; exact (below_size (by repeat (first | (with_reducible first | exact HB.out | apply below_alloc | apply pw_below_drewN | apply below_drew1 | refine below_set ?_ GE242.out | refine below_set ?_ GE243.out | refine below_set ?_ GE244.out) | exact HB.out))) : w.heap.size ≤ gb249)); have n7_ := Aside0.mk ((by rw [hg]; exact (below_size (by repeat (first | (with_reducible first | exact HB.out | apply below_alloc | apply pw_below_drewN | apply below_drew1 | refine below_set ?_ GE242.out | refine below_set ?_ GE243.out | refine below_set ?_ GE244.out) | exact HB.out))) : w.heap.size ≤ gb249)); have n8_ := Aside0.mk ((by rw [hg]; exact Nat.ne_of_lt (blk_lt (g := gb242) (o := .cells #[.slice none 0 0, .int .i64 x243001_1, .int .i64 x243002_1] 73 (0, 0)) (by (with_reducible repeat (first | refine blk_drewN ?_ _ | refine blk_drew ?_ | refine blk_alloc ?_ _)); exact BK242.out)) : gb242 ≠ gb249)); have n9_ := Aside0.mk ((by rw [hg]; exact Nat.ne_of_gt (blk_lt (g := gb242) (o := .cells #[.slice none 0 0, .int .i64 x243001_1, .int .i64 x243002_1] 73 (0, 0)) (by (with_reducible repeat (first | refine blk_drewN ?_ _ | refine blk_drew ?_ | refine blk_alloc ?_ _)); exact BK242.out)) : gb249 ≠ gb242)); have n10_ := Aside0.mk ((by rw [hg]; exact Nat.ne_of_lt (blk_lt (g := gb243) (o := .cells #[u244000, .int .i64 x244001_1, .int .i64 x244002_1] 73 (0, 0)) (by (with_reducible repeat (first | refine blk_drewN ?_ _ | refine blk_drew ?_ | refine blk_alloc ?_ _)); exact BK243.out)) : gb243 ≠ gb249)); have n11_ := Aside0.mk ((by rw [hg]; exact Nat.ne_of_gt (blk_lt (g := gb243) (o := .cells #[u244000, .int .i64 x244001_1, .int .i64 x244002_1] 73 (0, 0)) (by (with_reducible repeat (first | refine blk_drewN ?_ _ | refine blk_drew ?_ | refine blk_alloc ?_ _)); exact BK243.out)) : gb249 ≠ gb243)); have n12_ := Aside0.mk ((by rw [hg]; exact Nat.ne_of_lt (blk_lt (g := gb244) (o := .cells #[.int .i64 x245000_1, .int .i64 x245001_1, .int .i64 x245002_1] 26 (0, 0)) (by (with_reducible repeat (first | refine blk_drewN ?_ _ | refine blk_drew ?_ | refine blk_alloc ?_ _)); exact BK244.out)) : gb244 ≠ gb249)); have n13_ := Aside0.mk ((by rw [hg]; exact Nat.ne_of_gt (blk_lt (g := gb244) (o := .cells #[.int .i64 x245000_1, .int .i64 x245001_1, .int .i64 x245002_1] 26 (0, 0)) (by (with_reducible repeat (first | refine blk_drewN ?_ _ | refine blk_drew ?_ | refine blk_alloc ?_ _)); exact BK244.out)) : gb249 ≠ gb244)); clear HO_244000; clear BK242; clear BK243; clear BK244; clear HB; have HO_244000 := n0_; have BK242 := n1_; have BK243 := n2_; have BK244 := n3_; have HB := n4_; have BK249 := n5_; have GW249 := n6_; have GE249 := n7_; have NB242_249 := n8_; have NB249_242 := n9_; have NB243_249 := n10_; have NB249_243 := n11_; have NB244_249 := n12_; have NB249_244 := n13_; clear n0_ n1_ n2_ n3_ n4_ n5_ n6_ n7_ n8_ n9_ n10_ n11_ n12_ n13_; clear hb hbox hg; have hnb47 := NB249_242.out; have hnc47 := NB242_249.out; have hnb48 := NB249_243.out; have hnc48 := NB243_249.out; have hnb49 := NB249_244.out; have hnc49 := NB244_249.out; have hcz50_0 : w46.cell? ⟨gb249, 0, none⟩ = some (.int .i64 0) := (blk_cell BK249.out 0).trans rfl; have hcz50_1 : w46.cell? ⟨gb249, 1, none⟩ = some (.int .i64 0) := (blk_cell BK249.out 1).trans rfl; have hfz50_0 := blk_frozen BK249.out 0; have hfz50_1 := blk_frozen BK249.out 1))
                                    have n0_ : Aside0 (Kd.R k35 35 ((w46.setCell ⟨gb249, 0, none⟩ (.int .i64 t247)).setCell ⟨gb249, 1, none⟩ (.int .i64 t248)) w.heap.size (fun _ => True) u244000 x244000_1) := ⟨by (with_reducible repeat (first | apply Kd.R_alloc | apply Kd.R_drewN | apply Kd.R_drew)); exact Kd.R_mono (Kd.R_far (p := ⟨gb249, 1, none⟩) (Kd.R_far (p := ⟨gb249, 0, none⟩) (Kd.R_types HO_244000.out BK249.out (by decide)) (fun _ hk => hk.2) (.int .i64 t247)) (fun _ hk => hk.2) (.int .i64 t248)) (fun _ hk => trivial)⟩
                                    have n1_ : Aside0 (((w46.setCell ⟨gb249, 0, none⟩ (.int .i64 t247)).setCell ⟨gb249, 1, none⟩ (.int .i64 t248)).heap[gb242]? = some (.cells #[.slice none 0 0, .int .i64 x243001_1, .int .i64 x243002_1] 73 (0, 0))) := ⟨by (with_reducible repeat (first | refine blk_drewN ?_ _ | refine blk_drew ?_ | refine blk_alloc ?_ _)); refine blk_far ?_ NB242_249.out _; (with_reducible repeat (first | refine blk_drewN ?_ _ | refine blk_drew ?_ | refine blk_alloc ?_ _)); refine blk_far ?_ NB242_249.out _; (with_reducible repeat (first | refine blk_drewN ?_ _ | refine blk_drew ?_ | refine blk_alloc ?_ _)); exact BK242.out⟩
                                    have n2_ : Aside0 (((w46.setCell ⟨gb249, 0, none⟩ (.int .i64 t247)).setCell ⟨gb249, 1, none⟩ (.int .i64 t248)).heap[gb243]? = some (.cells #[u244000, .int .i64 x244001_1, .int .i64 x244002_1] 73 (0, 0))) := ⟨by (with_reducible repeat (first | refine blk_drewN ?_ _ | refine blk_drew ?_ | refine blk_alloc ?_ _)); refine blk_far ?_ NB243_249.out _; (with_reducible repeat (first | refine blk_drewN ?_ _ | refine blk_drew ?_ | refine blk_alloc ?_ _)); refine blk_far ?_ NB243_249.out _; (with_reducible repeat (first | refine blk_drewN ?_ _ | refine blk_drew ?_ | refine blk_alloc ?_ _)); exact BK243.out⟩
                                    have n3_ : Aside0 (((w46.setCell ⟨gb249, 0, none⟩ (.int .i64 t247)).setCell ⟨gb249, 1, none⟩ (.int .i64 t248)).heap[gb244]? = some (.cells #[.int .i64 x245000_1, .int .i64 x245001_1, .int .i64 x245002_1] 26 (0, 0))) := ⟨by (with_reducible repeat (first | refine blk_drewN ?_ _ | refine blk_drew ?_ | refine blk_alloc ?_ _)); refine blk_far ?_ NB244_249.out _; (with_reducible repeat (first | refine blk_drewN ?_ _ | refine blk_drew ?_ | refine blk_alloc ?_ _)); refine blk_far ?_ NB244_249.out _; (with_reducible repeat (first | refine blk_drewN ?_ _ | refine blk_drew ?_ | refine blk_alloc ?_ _)); exact BK244.out⟩
                                    have n4_ : Aside0 (((w46.setCell ⟨gb249, 0, none⟩ (.int .i64 t247)).setCell ⟨gb249, 1, none⟩ (.int .i64 t248)).heap[gb249]? = some (.cells #[.int .i64 t247, .int .i64 t248] 113 (0, 0))) := ⟨by (with_reducible repeat (first | refine blk_drewN ?_ _ | refine blk_drew ?_ | refine blk_alloc ?_ _)); refine blk_put (cs := #[.int .i64 t247, .int .i64 0]) ?_ 1 _ rfl; (with_reducible repeat (first | refine blk_drewN ?_ _ | refine blk_drew ?_ | refine blk_alloc ?_ _)); refine blk_put (cs := #[.int .i64 0, .int .i64 0]) ?_ 0 _ rfl; (with_reducible repeat (first | refine blk_drewN ?_ _ | refine blk_drew ?_ | refine blk_alloc ?_ _)); exact BK249.out⟩
                                    have n5_ : Aside0 (Below w.heap.size w ((w46.setCell ⟨gb249, 0, none⟩ (.int .i64 t247)).setCell ⟨gb249, 1, none⟩ (.int .i64 t248))) := ⟨by repeat (first | (with_reducible first | exact HB.out | apply below_alloc | apply pw_below_drewN | apply below_drew1 | refine below_set ?_ GE242.out | refine below_set ?_ GE243.out | refine below_set ?_ GE244.out | refine below_set ?_ GE249.out) | exact HB.out)⟩
                                    (try clear HO_244000)
                                    (try clear BK242)
                                    (try clear BK243)
                                    (try clear BK244)
                                    (try clear BK249)
                                    (try clear HB)
                                    generalize ((w46.setCell ⟨gb249, 0, none⟩ (.int .i64 t247)).setCell ⟨gb249, 1, none⟩ (.int .i64 t248)) = w51 at n0_ n1_ n2_ n3_ n4_ n5_ ⊢
                                    have HO_244000 := n0_
                                    have BK242 := n1_
                                    have BK243 := n2_
                                    have BK244 := n3_
                                    have BK249 := n4_
                                    have HB := n5_
                                    clear n0_ n1_ n2_ n3_ n4_ n5_
                                    have n0_ := Aside0.mk (Kd.R_drew HO_244000.out)
                                    have n1_ := Aside0.mk (blk_drew BK242.out)
                                    have n2_ := Aside0.mk (blk_drew BK243.out)
                                    have n3_ := Aside0.mk (blk_drew BK244.out)
                                    have n4_ := Aside0.mk (blk_drew BK249.out)
                                    have n5_ := Aside0.mk (below_drew1 HB.out)
                                    clear HO_244000
                                    clear BK242
                                    clear BK243
                                    clear BK244
                                    clear BK249
                                    clear HB
                                    have HO_244000 := n0_
                                    have BK242 := n1_
                                    have BK243 := n2_
                                    have BK244 := n3_
                                    have BK249 := n4_
                                    have HB := n5_
                                    clear n0_ n1_ n2_ n3_ n4_ n5_
                                    refine start_ (n := 8) (S := fun w' => w'.cell? ⟨gb244, 0, none⟩ = some (.int .i64 x245000_1) ∧ w'.cell? ⟨gb244, 1, none⟩ = some (.int .i64 x245001_1) ∧ w'.cell? ⟨gb244, 2, none⟩ = some (.int .i64 x245002_1)) (ds := [7]) #[false, false, false, false, false, false, false, false] (by kernel_rfl) rfl rfl ⟨(blk_cell BK244.out 0).trans rfl, (blk_cell BK244.out 1).trans rfl, (blk_cell BK244.out 2).trans rfl⟩ (fun hHeld => ?_); refine with_tabW colophonref10_Find.tab20 colophonref10_Find.bits20 (fun HT_ HW_ => ?_)
                                    generalize w51.drew = w52 at HO_244000 BK242 BK243 BK244 BK249 HB hHeld ⊢
                                    refine pure_ (i := 1) (N := some 59) (v := ?_) (a' := ?_) #[false, true, false, false, false, false, false, false] rfl rfl (any_of HT_.out (by kernel_rfl)) (fun _ _ _ h => h) (Or.inl ⟨by rfl, ?_⟩) ?_ ?_
                                    rotate_left
                                    · intro w'
                                      go_simp
                                      with_reducible rfl
                                    rotate_left
                                    · simp only [Act.put, List.setIfInBounds_toArray, List.set_cons_zero, List.set_cons_succ, i64_w, i32_w]
                                      rfl
                                    refine pure_ (i := 2) (N := some 60) (v := ?_) (a' := ?_) #[false, true, true, false, false, false, false, false] rfl rfl (any_of HT_.out (by kernel_rfl)) (fun _ _ _ h => h) (Or.inl ⟨by rfl, ?_⟩) ?_ ?_
                                    rotate_left
                                    · intro w'
                                      go_simp
                                      with_reducible rfl
                                    rotate_left
                                    · simp only [Act.put, List.setIfInBounds_toArray, List.set_cons_zero, List.set_cons_succ, i64_w, i32_w]
                                      rfl
                                    refine pure_ (i := 4) (N := some 62) (v := ?_) (a' := ?_) #[false, true, true, false, true, false, false, false] rfl rfl (any_of HT_.out (by kernel_rfl)) (fun _ _ _ h => h) (Or.inl ⟨by rfl, ?_⟩) ?_ ?_
                                    rotate_left
                                    · intro w'
                                      go_simp
                                      with_reducible rfl
                                    rotate_left
                                    · simp only [Act.put, List.setIfInBounds_toArray, List.set_cons_zero, List.set_cons_succ, i64_w, i32_w]
                                      rfl
                                    refine take_ (i := 0) (N := some 58) (v := ?_) (a' := ?_) #[true, true, true, false, true, false, false, false] rfl rfl (take_ofW HT_.out HW_.out (by kernel_rfl)) (fun _ _ _ h => h) (Or.inl ⟨by rfl, ?_⟩) hHeld ?_ ?_
                                    rotate_left
                                    · rintro w' ⟨s0, s1, s2⟩
                                      go_simp
                                      with_reducible rfl
                                    rotate_left
                                    · simp only [Act.put, List.setIfInBounds_toArray, List.set_cons_zero, List.set_cons_succ, i64_w, i32_w]
                                      rfl
                                    refine take_ (i := 3) (N := some 61) (v := ?_) (a' := ?_) #[true, true, true, true, true, false, false, false] rfl rfl (take_ofW HT_.out HW_.out (by kernel_rfl)) (fun _ _ _ h => h) (Or.inl ⟨by rfl, ?_⟩) hHeld ?_ ?_
                                    rotate_left
                                    · rintro w' ⟨s0, s1, s2⟩
                                      go_simp
                                      with_reducible rfl
                                    rotate_left
                                    · simp only [Act.put, List.setIfInBounds_toArray, List.set_cons_zero, List.set_cons_succ, i64_w, i32_w]
                                      rfl
                                    refine pure_ (i := 5) (N := some 63) (v := ?_) (a' := ?_) #[true, true, true, true, true, true, false, false] rfl rfl (any_of HT_.out (by kernel_rfl)) (fun _ _ _ h => h) (Or.inl ⟨by rfl, ?_⟩) ?_ ?_
                                    rotate_left
                                    · intro w'
                                      go_simp
                                      with_reducible rfl
                                    rotate_left
                                    · simp only [Act.put, List.setIfInBounds_toArray, List.set_cons_zero, List.set_cons_succ, i64_w, i32_w]
                                      rfl
                                    refine one_ (i := 6) (N := some 64) #[true, true, true, true, true, true, true, false] rfl rfl (one_of HT_.out (by kernel_rfl)) (by decide) (fun K hK => ?_)
                                    refine goes_ Tryd.func42 (by kernel_rfl) rfl #[.agg #[.int .i64 x245000_1, .int .i64 x245001_1, .int .i64 x245002_1], .string (cutS a0 (x245000_1 : Int).toNat (x6_1 : Int).toNat)] (by rfl) rfl rfl (by (try simp only [List.map_toArray, List.map_cons, List.map_nil]); first | done | rfl | (simp only [List.length_drop, List.length_take]; rfl)) ?_
                                    with_reducible refine (colophonref03_Advance.calls x245000_1 x245001_1 x245002_1 (cutS a0 (x245000_1 : Int).toNat (x6_1 : Int).toNat) t250 t251 t252 _ A38.out).mono ?_
                                    rintro e w53 ⟨rfl, hb⟩
                                    refine ⟨_, rfl, ?_⟩
                                    have n0_ := Aside0.mk (Kd.R_below (by (with_reducible repeat (first | apply Kd.R_alloc | apply Kd.R_drewN | apply Kd.R_drew)); exact HO_244000.out) hb)
                                    have n1_ := Aside0.mk (blk_below (g := gb242) (o := .cells #[.slice none 0 0, .int .i64 x243001_1, .int .i64 x243002_1] 73 (0, 0)) (by (with_reducible repeat (first | refine blk_drewN ?_ _ | refine blk_drew ?_ | refine blk_alloc ?_ _)); exact BK242.out) hb)
                                    have n2_ := Aside0.mk (blk_below (g := gb243) (o := .cells #[u244000, .int .i64 x244001_1, .int .i64 x244002_1] 73 (0, 0)) (by (with_reducible repeat (first | refine blk_drewN ?_ _ | refine blk_drew ?_ | refine blk_alloc ?_ _)); exact BK243.out) hb)
                                    have n3_ := Aside0.mk (blk_below (g := gb244) (o := .cells #[.int .i64 x245000_1, .int .i64 x245001_1, .int .i64 x245002_1] 26 (0, 0)) (by (with_reducible repeat (first | refine blk_drewN ?_ _ | refine blk_drew ?_ | refine blk_alloc ?_ _)); exact BK244.out) hb)
                                    have n4_ := Aside0.mk (blk_below (g := gb249) (o := .cells #[.int .i64 t247, .int .i64 t248] 113 (0, 0)) (by (with_reducible repeat (first | refine blk_drewN ?_ _ | refine blk_drew ?_ | refine blk_alloc ?_ _)); exact BK249.out) hb)
                                    have n5_ := Aside0.mk (below_step (by repeat (first | (with_reducible first | exact HB.out | apply below_alloc | apply pw_below_drewN | apply below_drew1 | refine below_set ?_ GE242.out | refine below_set ?_ GE243.out | refine below_set ?_ GE244.out | refine below_set ?_ GE249.out) | exact HB.out)) hb)
                                    clear HO_244000
                                    clear BK242
                                    clear BK243
                                    clear BK244
                                    clear BK249
                                    clear HB
                                    have HO_244000 := n0_
                                    have BK242 := n1_
                                    have BK243 := n2_
                                    have BK244 := n3_
                                    have BK249 := n4_
                                    have HB := n5_
                                    clear n0_ n1_ n2_ n3_ n4_ n5_
                                    (try clear hb)
                                    (try clear hb2)
                                    (try clear hk)
                                    (try clear hi)
                                    refine hK.out _ _ ⟨(blk_cell BK244.out 0).trans rfl, (blk_cell BK244.out 1).trans rfl, (blk_cell BK244.out 2).trans rfl⟩ (fun hHeld => ?_)
                                    clear hK K
                                    refine norm_ (a' := ?_) ?_ ?_
                                    rotate_left
                                    · show Act.put _ (some 64) _ = _
                                      simp only [Act.put, List.setIfInBounds_toArray, List.set_cons_zero, List.set_cons_succ, i64_w, i32_w]
                                      rfl
                                    refine last_ (i := 7) (N := none) #[true, true, true, true, true, true, true, true] rfl rfl (one_of HT_.out (by kernel_rfl)) (by decide) (fun K hK => ?_)
                                    have hs54 : w53.cell? ⟨gb244, 0, none⟩ = some (.int .i64 x245000_1) := (blk_cell BK244.out 0).trans rfl
                                    have hfs54 := blk_frozen BK244.out 0
                                    have hns54_0 := NB242_244.out
                                    have hns54_1 := NB243_244.out
                                    have hns54_3 := NB249_244.out
                                    have hms54_0 := NB244_242.out
                                    have hms54_1 := NB244_243.out
                                    have hms54_3 := NB244_249.out
                                    have hs55 : w53.cell? ⟨gb244, 1, none⟩ = some (.int .i64 x245001_1) := (blk_cell BK244.out 1).trans rfl
                                    have hfs55 := blk_frozen BK244.out 1
                                    have hns55_0 := NB242_244.out
                                    have hns55_1 := NB243_244.out
                                    have hns55_3 := NB249_244.out
                                    have hms55_0 := NB244_242.out
                                    have hms55_1 := NB244_243.out
                                    have hms55_3 := NB244_249.out
                                    have hs56 : w53.cell? ⟨gb244, 2, none⟩ = some (.int .i64 x245002_1) := (blk_cell BK244.out 2).trans rfl
                                    have hfs56 := blk_frozen BK244.out 2
                                    have hns56_0 := NB242_244.out
                                    have hns56_1 := NB243_244.out
                                    have hns56_3 := NB249_244.out
                                    have hms56_0 := NB244_242.out
                                    have hms56_1 := NB244_243.out
                                    have hms56_3 := NB244_249.out
                                    refine skip_ (w1 := ?_) (by rfl) rfl ?_ ?_
                                    rotate_left
                                    · go_simp
                                      rfl
                                    refine hK.out _ _ ?_
                                    clear hK K
                                    refine done_ (done_of HT_.out (by kernel_rfl)) ?_
                                    try go_wp2
                                    have n0_ : Aside0 (Kd.R k35 35 (((w53.setCell ⟨gb244, 0, none⟩ (.int .i64 t250)).setCell ⟨gb244, 1, none⟩ (.int .i64 t251)).setCell ⟨gb244, 2, none⟩ (.int .i64 t252)) w.heap.size (fun _ => True) u244000 x244000_1) := ⟨by (with_reducible repeat (first | apply Kd.R_alloc | apply Kd.R_drewN | apply Kd.R_drew)); exact Kd.R_mono (Kd.R_far (p := ⟨gb244, 2, none⟩) (Kd.R_far (p := ⟨gb244, 1, none⟩) (Kd.R_far (p := ⟨gb244, 0, none⟩) (Kd.R_types HO_244000.out BK244.out (by decide)) (fun _ hk => hk.2) (.int .i64 t250)) (fun _ hk => hk.2) (.int .i64 t251)) (fun _ hk => hk.2) (.int .i64 t252)) (fun _ hk => trivial)⟩
                                    have n1_ : Aside0 ((((w53.setCell ⟨gb244, 0, none⟩ (.int .i64 t250)).setCell ⟨gb244, 1, none⟩ (.int .i64 t251)).setCell ⟨gb244, 2, none⟩ (.int .i64 t252)).heap[gb242]? = some (.cells #[.slice none 0 0, .int .i64 x243001_1, .int .i64 x243002_1] 73 (0, 0))) := ⟨by (with_reducible repeat (first | refine blk_drewN ?_ _ | refine blk_drew ?_ | refine blk_alloc ?_ _)); refine blk_far ?_ NB242_244.out _; (with_reducible repeat (first | refine blk_drewN ?_ _ | refine blk_drew ?_ | refine blk_alloc ?_ _)); refine blk_far ?_ NB242_244.out _; (with_reducible repeat (first | refine blk_drewN ?_ _ | refine blk_drew ?_ | refine blk_alloc ?_ _)); refine blk_far ?_ NB242_244.out _; (with_reducible repeat (first | refine blk_drewN ?_ _ | refine blk_drew ?_ | refine blk_alloc ?_ _)); exact BK242.out⟩
                                    have n2_ : Aside0 ((((w53.setCell ⟨gb244, 0, none⟩ (.int .i64 t250)).setCell ⟨gb244, 1, none⟩ (.int .i64 t251)).setCell ⟨gb244, 2, none⟩ (.int .i64 t252)).heap[gb243]? = some (.cells #[u244000, .int .i64 x244001_1, .int .i64 x244002_1] 73 (0, 0))) := ⟨by (with_reducible repeat (first | refine blk_drewN ?_ _ | refine blk_drew ?_ | refine blk_alloc ?_ _)); refine blk_far ?_ NB243_244.out _; (with_reducible repeat (first | refine blk_drewN ?_ _ | refine blk_drew ?_ | refine blk_alloc ?_ _)); refine blk_far ?_ NB243_244.out _; (with_reducible repeat (first | refine blk_drewN ?_ _ | refine blk_drew ?_ | refine blk_alloc ?_ _)); refine blk_far ?_ NB243_244.out _; (with_reducible repeat (first | refine blk_drewN ?_ _ | refine blk_drew ?_ | refine blk_alloc ?_ _)); exact BK243.out⟩
                                    have n3_ : Aside0 ((((w53.setCell ⟨gb244, 0, none⟩ (.int .i64 t250)).setCell ⟨gb244, 1, none⟩ (.int .i64 t251)).setCell ⟨gb244, 2, none⟩ (.int .i64 t252)).heap[gb244]? = some (.cells #[.int .i64 t250, .int .i64 t251, .int .i64 t252] 26 (0, 0))) := ⟨by (with_reducible repeat (first | refine blk_drewN ?_ _ | refine blk_drew ?_ | refine blk_alloc ?_ _)); refine blk_put (cs := #[.int .i64 t250, .int .i64 t251, .int .i64 x245002_1]) ?_ 2 _ rfl; (with_reducible repeat (first | refine blk_drewN ?_ _ | refine blk_drew ?_ | refine blk_alloc ?_ _)); refine blk_put (cs := #[.int .i64 t250, .int .i64 x245001_1, .int .i64 x245002_1]) ?_ 1 _ rfl; (with_reducible repeat (first | refine blk_drewN ?_ _ | refine blk_drew ?_ | refine blk_alloc ?_ _)); refine blk_put (cs := #[.int .i64 x245000_1, .int .i64 x245001_1, .int .i64 x245002_1]) ?_ 0 _ rfl; (with_reducible repeat (first | refine blk_drewN ?_ _ | refine blk_drew ?_ | refine blk_alloc ?_ _)); exact BK244.out⟩
                                    have n4_ : Aside0 ((((w53.setCell ⟨gb244, 0, none⟩ (.int .i64 t250)).setCell ⟨gb244, 1, none⟩ (.int .i64 t251)).setCell ⟨gb244, 2, none⟩ (.int .i64 t252)).heap[gb249]? = some (.cells #[.int .i64 t247, .int .i64 t248] 113 (0, 0))) := ⟨by (with_reducible repeat (first | refine blk_drewN ?_ _ | refine blk_drew ?_ | refine blk_alloc ?_ _)); refine blk_far ?_ NB249_244.out _; (with_reducible repeat (first | refine blk_drewN ?_ _ | refine blk_drew ?_ | refine blk_alloc ?_ _)); refine blk_far ?_ NB249_244.out _; (with_reducible repeat (first | refine blk_drewN ?_ _ | refine blk_drew ?_ | refine blk_alloc ?_ _)); refine blk_far ?_ NB249_244.out _; (with_reducible repeat (first | refine blk_drewN ?_ _ | refine blk_drew ?_ | refine blk_alloc ?_ _)); exact BK249.out⟩
                                    have n5_ : Aside0 (Below w.heap.size w (((w53.setCell ⟨gb244, 0, none⟩ (.int .i64 t250)).setCell ⟨gb244, 1, none⟩ (.int .i64 t251)).setCell ⟨gb244, 2, none⟩ (.int .i64 t252))) := ⟨by repeat (first | (with_reducible first | exact HB.out | apply below_alloc | apply pw_below_drewN | apply below_drew1 | refine below_set ?_ GE242.out | refine below_set ?_ GE243.out | refine below_set ?_ GE244.out | refine below_set ?_ GE249.out) | exact HB.out)⟩
                                    (try clear HO_244000)
                                    (try clear BK242)
                                    (try clear BK243)
                                    (try clear BK244)
                                    (try clear BK249)
                                    (try clear HB)
                                    generalize (((w53.setCell ⟨gb244, 0, none⟩ (.int .i64 t250)).setCell ⟨gb244, 1, none⟩ (.int .i64 t251)).setCell ⟨gb244, 2, none⟩ (.int .i64 t252)) = w57 at n0_ n1_ n2_ n3_ n4_ n5_ ⊢
                                    have HO_244000 := n0_
                                    have BK242 := n1_
                                    have BK243 := n2_
                                    have BK244 := n3_
                                    have BK249 := n4_
                                    have HB := n5_
                                    clear n0_ n1_ n2_ n3_ n4_ n5_
                                    have n0_ := Aside0.mk (Kd.R_drew HO_244000.out)
                                    have n1_ := Aside0.mk (blk_drew BK242.out)
                                    have n2_ := Aside0.mk (blk_drew BK243.out)
                                    have n3_ := Aside0.mk (blk_drew BK244.out)
                                    have n4_ := Aside0.mk (blk_drew BK249.out)
                                    have n5_ := Aside0.mk (below_drew1 HB.out)
                                    clear HO_244000
                                    clear BK242
                                    clear BK243
                                    clear BK244
                                    clear BK249
                                    clear HB
                                    have HO_244000 := n0_
                                    have BK242 := n1_
                                    have BK243 := n2_
                                    have BK244 := n3_
                                    have BK249 := n4_
                                    have HB := n5_
                                    clear n0_ n1_ n2_ n3_ n4_ n5_
                                    refine start_ (n := 11) (S := fun w' => w'.cell? ⟨gb249, 0, none⟩ = some (.int .i64 t247) ∧ w'.cell? ⟨gb249, 1, none⟩ = some (.int .i64 t248) ∧ w'.cell? ⟨gb244, 0, none⟩ = some (.int .i64 t250) ∧ w'.cell? ⟨gb244, 1, none⟩ = some (.int .i64 t251) ∧ w'.cell? ⟨gb244, 2, none⟩ = some (.int .i64 t252)) (ds := []) #[false, false, false, false, false, false, false, false, false, false, false] (by kernel_rfl) rfl rfl ⟨(blk_cell BK249.out 0).trans rfl, (blk_cell BK249.out 1).trans rfl, (blk_cell BK244.out 0).trans rfl, (blk_cell BK244.out 1).trans rfl, (blk_cell BK244.out 2).trans rfl⟩ (fun hHeld => ?_); refine with_tabW colophonref10_Find.tab21 colophonref10_Find.bits21 (fun HT_ HW_ => ?_)
                                    generalize w57.drew = w58 at HO_244000 BK242 BK243 BK244 BK249 HB hHeld ⊢
                                    refine pure_ (i := 0) (N := some 65) (v := ?_) (a' := ?_) #[true, false, false, false, false, false, false, false, false, false, false] rfl rfl (any_of HT_.out (by kernel_rfl)) (fun _ _ _ h => h) (Or.inl ⟨by rfl, ?_⟩) ?_ ?_
                                    rotate_left
                                    · intro w'
                                      go_simp
                                      with_reducible rfl
                                    rotate_left
                                    · simp only [Act.put, List.setIfInBounds_toArray, List.set_cons_zero, List.set_cons_succ, i64_w, i32_w]
                                      rfl
                                    refine pure_ (i := 1) (N := some 66) (v := ?_) (a' := ?_) #[true, true, false, false, false, false, false, false, false, false, false] rfl rfl (any_of HT_.out (by kernel_rfl)) (fun _ _ _ h => h) (Or.inl ⟨by rfl, ?_⟩) ?_ ?_
                                    rotate_left
                                    · intro w'
                                      go_simp
                                      with_reducible rfl
                                    rotate_left
                                    · simp only [Act.put, List.setIfInBounds_toArray, List.set_cons_zero, List.set_cons_succ, i64_w, i32_w]
                                      rfl
                                    refine pure_ (i := 2) (N := some 67) (v := ?_) (a' := ?_) #[true, true, true, false, false, false, false, false, false, false, false] rfl rfl (any_of HT_.out (by kernel_rfl)) (fun _ _ _ h => h) (Or.inl ⟨by rfl, ?_⟩) ?_ ?_
                                    rotate_left
                                    · intro w'
                                      go_simp
                                      with_reducible rfl
                                    rotate_left
                                    · simp only [Act.put, List.setIfInBounds_toArray, List.set_cons_zero, List.set_cons_succ, i64_w, i32_w]
                                      rfl
                                    refine pure_ (i := 3) (N := some 68) (v := ?_) (a' := ?_) #[true, true, true, true, false, false, false, false, false, false, false] rfl rfl (any_of HT_.out (by kernel_rfl)) (fun _ _ _ h => h) (Or.inl ⟨by rfl, ?_⟩) ?_ ?_
                                    rotate_left
                                    · intro w'
                                      go_simp
                                      with_reducible rfl
                                    rotate_left
                                    · simp only [Act.put, List.setIfInBounds_toArray, List.set_cons_zero, List.set_cons_succ, i64_w, i32_w]
                                      rfl
                                    refine pure_ (i := 7) (N := some 72) (v := ?_) (a' := ?_) #[true, true, true, true, false, false, false, true, false, false, false] rfl rfl (any_of HT_.out (by kernel_rfl)) (fun _ _ _ h => h) (Or.inl ⟨by rfl, ?_⟩) ?_ ?_
                                    rotate_left
                                    · intro w'
                                      go_simp
                                      with_reducible rfl
                                    rotate_left
                                    · simp only [Act.put, List.setIfInBounds_toArray, List.set_cons_zero, List.set_cons_succ, i64_w, i32_w]
                                      rfl
                                    refine take_ (i := 4) (N := some 69) (v := ?_) (a' := ?_) #[true, true, true, true, true, false, false, true, false, false, false] rfl rfl (take_ofW HT_.out HW_.out (by kernel_rfl)) (fun _ _ _ h => h) (Or.inl ⟨by rfl, ?_⟩) hHeld ?_ ?_
                                    rotate_left
                                    · rintro w' ⟨s0, s1, s2, s3, s4⟩
                                      go_simp
                                      with_reducible rfl
                                    rotate_left
                                    · simp only [Act.put, List.setIfInBounds_toArray, List.set_cons_zero, List.set_cons_succ, i64_w, i32_w]
                                      rfl
                                    refine pure_ (i := 5) (N := some 70) (v := ?_) (a' := ?_) #[true, true, true, true, true, true, false, true, false, false, false] rfl rfl (any_of HT_.out (by kernel_rfl)) (fun _ _ _ h => h) (Or.inl ⟨by rfl, ?_⟩) ?_ ?_
                                    rotate_left
                                    · intro w'
                                      go_simp
                                      with_reducible rfl
                                    rotate_left
                                    · simp only [Act.put, List.setIfInBounds_toArray, List.set_cons_zero, List.set_cons_succ, i64_w, i32_w]
                                      rfl
                                    refine take_ (i := 6) (N := some 71) (v := ?_) (a' := ?_) #[true, true, true, true, true, true, true, true, false, false, false] rfl rfl (take_ofW HT_.out HW_.out (by kernel_rfl)) (fun _ _ _ h => h) (Or.inl ⟨by rfl, ?_⟩) hHeld ?_ ?_
                                    rotate_left
                                    · rintro w' ⟨s0, s1, s2, s3, s4⟩
                                      go_simp
                                      with_reducible rfl
                                    rotate_left
                                    · simp only [Act.put, List.setIfInBounds_toArray, List.set_cons_zero, List.set_cons_succ, i64_w, i32_w]
                                      rfl
                                    refine pure_ (i := 8) (N := some 73) (v := ?_) (a' := ?_) #[true, true, true, true, true, true, true, true, true, false, false] rfl rfl (any_of HT_.out (by kernel_rfl)) (fun _ _ _ h => h) (Or.inl ⟨by rfl, ?_⟩) ?_ ?_
                                    rotate_left
                                    · intro w'
                                      go_simp
                                      with_reducible rfl
                                    rotate_left
                                    · simp only [Act.put, List.setIfInBounds_toArray, List.set_cons_zero, List.set_cons_succ, i64_w, i32_w]
                                      rfl
                                    refine one_ (i := 9) (N := some 9) #[true, true, true, true, true, true, true, true, true, true, false] rfl rfl (one_of HT_.out (by kernel_rfl)) (by decide) (fun K hK => ?_)
                                    refine box_step ?hg (N := 9) ?hd (cs := #[.int .u8 0, .string (⟨#[]⟩ : ByteArray), .int .i64 0, .int .i64 0, .int .i64 0, .int .i64 0]) (t := 35) ?hr ?_; (case hd => rfl); (case hg => rfl); (case hr => first | (go_simp; done) | (go_simp; rfl))
                                    intro gb253 hg w59 hbox hb
                                    have n0_ := Aside0.mk (Kd.R_below (Kd.R_elderB (by (with_reducible repeat (first | apply Kd.R_alloc | apply Kd.R_drewN | apply Kd.R_drew)); exact HO_244000.out) gb253 (Nat.le_of_eq hg.symm)) hb)
                                    have n1_ := Aside0.mk (blk_below (g := gb242) (o := .cells #[.slice none 0 0, .int .i64 x243001_1, .int .i64 x243002_1] 73 (0, 0)) (by (with_reducible repeat (first | refine blk_drewN ?_ _ | refine blk_drew ?_ | refine blk_alloc ?_ _)); exact BK242.out) hb)
                                    have n2_ := Aside0.mk (blk_below (g := gb243) (o := .cells #[u244000, .int .i64 x244001_1, .int .i64 x244002_1] 73 (0, 0)) (by (with_reducible repeat (first | refine blk_drewN ?_ _ | refine blk_drew ?_ | refine blk_alloc ?_ _)); exact BK243.out) hb)
                                    have n3_ := Aside0.mk (blk_below (g := gb244) (o := .cells #[.int .i64 t250, .int .i64 t251, .int .i64 t252] 26 (0, 0)) (by (with_reducible repeat (first | refine blk_drewN ?_ _ | refine blk_drew ?_ | refine blk_alloc ?_ _)); exact BK244.out) hb)
                                    have n4_ := Aside0.mk (blk_below (g := gb249) (o := .cells #[.int .i64 t247, .int .i64 t248] 113 (0, 0)) (by (with_reducible repeat (first | refine blk_drewN ?_ _ | refine blk_drew ?_ | refine blk_alloc ?_ _)); exact BK249.out) hb)
                                    have n5_ := Aside0.mk (below_step (by repeat (first | (with_reducible first | exact HB.out | apply below_alloc | apply pw_below_drewN | apply below_drew1 | refine below_set ?_ GE242.out | refine below_set ?_ GE243.out | refine below_set ?_ GE244.out | refine below_set ?_ GE249.out) | exact HB.out)) hb)
                                    have n6_ := Aside0.mk (hbox)
                                    have n7_ := Aside0.mk ((by rw [hg]; exact (below_size (by repeat (first | (with_reducible first | exact HB.out | apply below_alloc | apply pw_below_drewN | apply below_drew1 | refine below_set ?_ GE242.out | refine below_set ?_ GE243.out | refine below_set ?_ GE244.out | refine below_set ?_ GE249.out) | exact HB.out))) : w.heap.size ≤ gb253))
                                    have n8_ := Aside0.mk ((by rw [hg]; exact (below_size (by repeat (first | (with_reducible first | exact HB.out | apply below_alloc | apply pw_below_drewN | apply below_drew1 | refine below_set ?_ GE242.out | refine below_set ?_ GE243.out | refine below_set ?_ GE244.out | refine below_set ?_ GE249.out) | exact HB.out))) : w.heap.size ≤ gb253))
                                    have n9_ := Aside0.mk ((by rw [hg]; exact Nat.ne_of_lt (blk_lt (g := gb242) (o := .cells #[.slice none 0 0, .int .i64 x243001_1, .int .i64 x243002_1] 73 (0, 0)) (by (with_reducible repeat (first | refine blk_drewN ?_ _ | refine blk_drew ?_ | refine blk_alloc ?_ _)); exact BK242.out)) : gb242 ≠ gb253))
                                    have n10_ := Aside0.mk ((by rw [hg]; exact Nat.ne_of_gt (blk_lt (g := gb242) (o := .cells #[.slice none 0 0, .int .i64 x243001_1, .int .i64 x243002_1] 73 (0, 0)) (by (with_reducible repeat (first | refine blk_drewN ?_ _ | refine blk_drew ?_ | refine blk_alloc ?_ _)); exact BK242.out)) : gb253 ≠ gb242))
                                    have n11_ := Aside0.mk ((by rw [hg]; exact Nat.ne_of_lt (blk_lt (g := gb243) (o := .cells #[u244000, .int .i64 x244001_1, .int .i64 x244002_1] 73 (0, 0)) (by (with_reducible repeat (first | refine blk_drewN ?_ _ | refine blk_drew ?_ | refine blk_alloc ?_ _)); exact BK243.out)) : gb243 ≠ gb253))
                                    have n12_ := Aside0.mk ((by rw [hg]; exact Nat.ne_of_gt (blk_lt (g := gb243) (o := .cells #[u244000, .int .i64 x244001_1, .int .i64 x244002_1] 73 (0, 0)) (by (with_reducible repeat (first | refine blk_drewN ?_ _ | refine blk_drew ?_ | refine blk_alloc ?_ _)); exact BK243.out)) : gb253 ≠ gb243))
                                    have n13_ := Aside0.mk ((by rw [hg]; exact Nat.ne_of_lt (blk_lt (g := gb244) (o := .cells #[.int .i64 t250, .int .i64 t251, .int .i64 t252] 26 (0, 0)) (by (with_reducible repeat (first | refine blk_drewN ?_ _ | refine blk_drew ?_ | refine blk_alloc ?_ _)); exact BK244.out)) : gb244 ≠ gb253))
                                    have n14_ := Aside0.mk ((by rw [hg]; exact Nat.ne_of_gt (blk_lt (g := gb244) (o := .cells #[.int .i64 t250, .int .i64 t251, .int .i64 t252] 26 (0, 0)) (by (with_reducible repeat (first | refine blk_drewN ?_ _ | refine blk_drew ?_ | refine blk_alloc ?_ _)); exact BK244.out)) : gb253 ≠ gb244))
                                    have n15_ := Aside0.mk ((by rw [hg]; exact Nat.ne_of_lt (blk_lt (g := gb249) (o := .cells #[.int .i64 t247, .int .i64 t248] 113 (0, 0)) (by (with_reducible repeat (first | refine blk_drewN ?_ _ | refine blk_drew ?_ | refine blk_alloc ?_ _)); exact BK249.out)) : gb249 ≠ gb253))
                                    have n16_ := Aside0.mk ((by rw [hg]; exact Nat.ne_of_gt (blk_lt (g := gb249) (o := .cells #[.int .i64 t247, .int .i64 t248] 113 (0, 0)) (by (with_reducible repeat (first | refine blk_drewN ?_ _ | refine blk_drew ?_ | refine blk_alloc ?_ _)); exact BK249.out)) : gb253 ≠ gb249))
                                    clear HO_244000
                                    clear BK242
                                    clear BK243
                                    clear BK244
                                    clear BK249
                                    clear HB
                                    have HO_244000 := n0_
                                    have BK242 := n1_
                                    have BK243 := n2_
                                    have BK244 := n3_
                                    have BK249 := n4_
                                    have HB := n5_
                                    have BK253 := n6_
                                    have GW253 := n7_
                                    have GE253 := n8_
                                    have NB242_253 := n9_
                                    have NB253_242 := n10_
                                    have NB243_253 := n11_
                                    have NB253_243 := n12_
                                    have NB244_253 := n13_
                                    have NB253_244 := n14_
                                    have NB249_253 := n15_
                                    have NB253_249 := n16_
                                    clear n0_ n1_ n2_ n3_ n4_ n5_ n6_ n7_ n8_ n9_ n10_ n11_ n12_ n13_ n14_ n15_ n16_
                                    clear hb hbox hg
                                    refine hK.out _ _ ⟨(blk_cell BK249.out 0).trans rfl, (blk_cell BK249.out 1).trans rfl, (blk_cell BK244.out 0).trans rfl, (blk_cell BK244.out 1).trans rfl, (blk_cell BK244.out 2).trans rfl⟩ (fun hHeld => ?_)
                                    clear hK K
                                    refine norm_ (a' := ?_) ?_ ?_
                                    rotate_left
                                    · show Act.put _ (some 9) _ = _
                                      simp only [Act.put, List.setIfInBounds_toArray, List.set_cons_zero, List.set_cons_succ, i64_w, i32_w]
                                      rfl
                                    refine one_ (i := 10) (N := none) #[true, true, true, true, true, true, true, true, true, true, true] rfl rfl (one_of HT_.out (by kernel_rfl)) (by decide) (fun K hK => ?_)
                                    have hs60 : w59.cell? ⟨gb253, 0, none⟩ = some (.int .u8 0) := (blk_cell BK253.out 0).trans rfl
                                    have hfs60 := blk_frozen BK253.out 0
                                    have hns60_0 := NB242_253.out
                                    have hns60_1 := NB243_253.out
                                    have hns60_2 := NB244_253.out
                                    have hns60_3 := NB249_253.out
                                    have hms60_0 := NB253_242.out
                                    have hms60_1 := NB253_243.out
                                    have hms60_2 := NB253_244.out
                                    have hms60_3 := NB253_249.out
                                    have hs61 : w59.cell? ⟨gb253, 1, none⟩ = some (.string (⟨#[]⟩ : ByteArray)) := (blk_cell BK253.out 1).trans rfl
                                    have hfs61 := blk_frozen BK253.out 1
                                    have hns61_0 := NB242_253.out
                                    have hns61_1 := NB243_253.out
                                    have hns61_2 := NB244_253.out
                                    have hns61_3 := NB249_253.out
                                    have hms61_0 := NB253_242.out
                                    have hms61_1 := NB253_243.out
                                    have hms61_2 := NB253_244.out
                                    have hms61_3 := NB253_249.out
                                    have hs62 : w59.cell? ⟨gb253, 2, none⟩ = some (.int .i64 0) := (blk_cell BK253.out 2).trans rfl
                                    have hfs62 := blk_frozen BK253.out 2
                                    have hns62_0 := NB242_253.out
                                    have hns62_1 := NB243_253.out
                                    have hns62_2 := NB244_253.out
                                    have hns62_3 := NB249_253.out
                                    have hms62_0 := NB253_242.out
                                    have hms62_1 := NB253_243.out
                                    have hms62_2 := NB253_244.out
                                    have hms62_3 := NB253_249.out
                                    have hs63 : w59.cell? ⟨gb253, 3, none⟩ = some (.int .i64 0) := (blk_cell BK253.out 3).trans rfl
                                    have hfs63 := blk_frozen BK253.out 3
                                    have hns63_0 := NB242_253.out
                                    have hns63_1 := NB243_253.out
                                    have hns63_2 := NB244_253.out
                                    have hns63_3 := NB249_253.out
                                    have hms63_0 := NB253_242.out
                                    have hms63_1 := NB253_243.out
                                    have hms63_2 := NB253_244.out
                                    have hms63_3 := NB253_249.out
                                    have hs64 : w59.cell? ⟨gb253, 4, none⟩ = some (.int .i64 0) := (blk_cell BK253.out 4).trans rfl
                                    have hfs64 := blk_frozen BK253.out 4
                                    have hns64_0 := NB242_253.out
                                    have hns64_1 := NB243_253.out
                                    have hns64_2 := NB244_253.out
                                    have hns64_3 := NB249_253.out
                                    have hms64_0 := NB253_242.out
                                    have hms64_1 := NB253_243.out
                                    have hms64_2 := NB253_244.out
                                    have hms64_3 := NB253_249.out
                                    have hs65 : w59.cell? ⟨gb253, 5, none⟩ = some (.int .i64 0) := (blk_cell BK253.out 5).trans rfl
                                    have hfs65 := blk_frozen BK253.out 5
                                    have hns65_0 := NB242_253.out
                                    have hns65_1 := NB243_253.out
                                    have hns65_2 := NB244_253.out
                                    have hns65_3 := NB249_253.out
                                    have hms65_0 := NB253_242.out
                                    have hms65_1 := NB253_243.out
                                    have hms65_2 := NB253_244.out
                                    have hms65_3 := NB253_249.out
                                    refine skip_ (w1 := ?_) (by rfl) rfl ?_ ?_
                                    rotate_left
                                    · go_simp
                                      rfl
                                    refine hK.out _ _ ⟨((cell_far (p := ⟨gb253, _, none⟩) NB249_253.out _).trans (((cell_far (p := ⟨gb253, _, none⟩) NB249_253.out _).trans (((cell_far (p := ⟨gb253, _, none⟩) NB249_253.out _).trans (((cell_far (p := ⟨gb253, _, none⟩) NB249_253.out _).trans (((cell_far (p := ⟨gb253, _, none⟩) NB249_253.out _).trans (((cell_far (p := ⟨gb253, _, none⟩) NB249_253.out _).trans (hHeld.1)))))))))))), ((cell_far (p := ⟨gb253, _, none⟩) NB249_253.out _).trans (((cell_far (p := ⟨gb253, _, none⟩) NB249_253.out _).trans (((cell_far (p := ⟨gb253, _, none⟩) NB249_253.out _).trans (((cell_far (p := ⟨gb253, _, none⟩) NB249_253.out _).trans (((cell_far (p := ⟨gb253, _, none⟩) NB249_253.out _).trans (((cell_far (p := ⟨gb253, _, none⟩) NB249_253.out _).trans (hHeld.2.1)))))))))))), ((cell_far (p := ⟨gb253, _, none⟩) NB244_253.out _).trans (((cell_far (p := ⟨gb253, _, none⟩) NB244_253.out _).trans (((cell_far (p := ⟨gb253, _, none⟩) NB244_253.out _).trans (((cell_far (p := ⟨gb253, _, none⟩) NB244_253.out _).trans (((cell_far (p := ⟨gb253, _, none⟩) NB244_253.out _).trans (((cell_far (p := ⟨gb253, _, none⟩) NB244_253.out _).trans (hHeld.2.2.1)))))))))))), ((cell_far (p := ⟨gb253, _, none⟩) NB244_253.out _).trans (((cell_far (p := ⟨gb253, _, none⟩) NB244_253.out _).trans (((cell_far (p := ⟨gb253, _, none⟩) NB244_253.out _).trans (((cell_far (p := ⟨gb253, _, none⟩) NB244_253.out _).trans (((cell_far (p := ⟨gb253, _, none⟩) NB244_253.out _).trans (((cell_far (p := ⟨gb253, _, none⟩) NB244_253.out _).trans (hHeld.2.2.2.1)))))))))))), ((cell_far (p := ⟨gb253, _, none⟩) NB244_253.out _).trans (((cell_far (p := ⟨gb253, _, none⟩) NB244_253.out _).trans (((cell_far (p := ⟨gb253, _, none⟩) NB244_253.out _).trans (((cell_far (p := ⟨gb253, _, none⟩) NB244_253.out _).trans (((cell_far (p := ⟨gb253, _, none⟩) NB244_253.out _).trans (((cell_far (p := ⟨gb253, _, none⟩) NB244_253.out _).trans (hHeld.2.2.2.2))))))))))))⟩ (fun hHeld => ?_)
                                    clear hK K
                                    refine done_ (done_of HT_.out (by kernel_rfl)) ?_
                                    have hnb66 := NB253_242.out
                                    have hnc66 := NB242_253.out
                                    have hnb67 := NB253_243.out
                                    have hnc67 := NB243_253.out
                                    have hnb68 := NB253_244.out
                                    have hnc68 := NB244_253.out
                                    have hnb69 := NB253_249.out
                                    have hnc69 := NB249_253.out
                                    have hcz70_0 : w59.cell? ⟨gb253, 0, none⟩ = some (.int .u8 0) := (blk_cell BK253.out 0).trans rfl
                                    have hcz70_1 : w59.cell? ⟨gb253, 1, none⟩ = some (.string (⟨#[]⟩ : ByteArray)) := (blk_cell BK253.out 1).trans rfl
                                    have hcz70_2 : w59.cell? ⟨gb253, 2, none⟩ = some (.int .i64 0) := (blk_cell BK253.out 2).trans rfl
                                    have hcz70_3 : w59.cell? ⟨gb253, 3, none⟩ = some (.int .i64 0) := (blk_cell BK253.out 3).trans rfl
                                    have hcz70_4 : w59.cell? ⟨gb253, 4, none⟩ = some (.int .i64 0) := (blk_cell BK253.out 4).trans rfl
                                    have hcz70_5 : w59.cell? ⟨gb253, 5, none⟩ = some (.int .i64 0) := (blk_cell BK253.out 5).trans rfl
                                    have hfz70_0 := blk_frozen BK253.out 0
                                    have hfz70_1 := blk_frozen BK253.out 1
                                    have hfz70_2 := blk_frozen BK253.out 2
                                    have hfz70_3 := blk_frozen BK253.out 3
                                    have hfz70_4 := blk_frozen BK253.out 4
                                    have hfz70_5 := blk_frozen BK253.out 5
                                    go_upto_region 23 with (first | ((with_reducible refine gate_callee (f := 88) rfl ?_); refine goesL_ (some 76) rfl rfl Tryd.func88 (by kernel_rfl) rfl #[.string (cutS a0 (x6_1 : Int).toNat (t247 : Int).toNat)] rfl (by (try simp only [List.map_toArray, List.map_cons, List.map_nil]); first | done | rfl | (simp only [List.length_drop, List.length_take]; rfl)) ?_; (with_reducible refine (colophonref04_IsKey.calls kj14 (cutS a0 (x6_1 : Int).toNat (t247 : Int).toNat) t254 _ A42.out).mono ?_); rintro e w71 ⟨rfl, hb⟩; refine ⟨_, rfl, ?_⟩; have n0_ := Aside0.mk (Kd.R_below (by (with_reducible repeat (first | apply Kd.R_alloc | apply Kd.R_drewN | apply Kd.R_drew)); exact (Kd.R_mono (Kd.R_far (p := ⟨gb253, 5, none⟩) (Kd.R_far (p := ⟨gb253, 4, none⟩) (Kd.R_far (p := ⟨gb253, 3, none⟩) (Kd.R_far (p := ⟨gb253, 2, none⟩) (Kd.R_far (p := ⟨gb253, 1, none⟩) (Kd.R_far (p := ⟨gb253, 0, none⟩) (Kd.R_mono HO_244000.out (fun k_ hk => (⟨hk, hk.2⟩ : _ ∧ k_ ≠ gb253))) (fun _ hk => hk.2) (.int .u8 t246)) (fun _ hk => hk.2) (.string (cutS a0 (x6_1 : Int).toNat (t247 : Int).toNat))) (fun _ hk => hk.2) (.int .i64 t250)) (fun _ hk => hk.2) (.int .i64 t251)) (fun _ hk => hk.2) (.int .i64 t252)) (fun _ hk => hk.2) (.int .i64 x5_12)) (fun _ h_ => h_.1))) hb); have n1_ := Aside0.mk (blk_below (g := gb242) (o := .cells #[.slice none 0 0, .int .i64 x243001_1, .int .i64 x243002_1] 73 (0, 0)) (by (with_reducible repeat (first | refine blk_drewN ?_ _ | refine blk_drew ?_ | refine blk_alloc ?_ _)); refine blk_far ?_ NB242_253.out _; (with_reducible repeat (first | refine blk_drewN ?_ _ | refine blk_drew ?_ | refine blk_alloc ?_ _)); refine blk_far ?_ NB242_253.out _; (with_reducible repeat (first | refine blk_drewN ?_ _ | refine blk_drew ?_ | refine blk_alloc ?_ _)); refine blk_far ?_ NB242_253.out _; (with_reducible repeat (first | refine blk_drewN ?_ _ | refine blk_drew ?_ | refine blk_alloc ?_ _)); refine blk_far ?_ NB242_253.out _; (with_reducible repeat (first | refine blk_drewN ?_ _ | refine blk_drew ?_ | refine blk_alloc ?_ _)); refine blk_far ?_ NB242_253.out _; (with_reducible repeat (first | refine blk_drewN ?_ _ | refine blk_drew ?_ | refine blk_alloc ?_ _)); refine blk_far ?_ NB242_253.out _; (with_reducible repeat (first | refine blk_drewN ?_ _ | refine blk_drew ?_ | refine blk_alloc ?_ _)); exact BK242.out) hb); have n2_ := Aside0.mk (blk_below (g := gb243) (o := .cells #[u244000, .int .i64 x244001_1, .int .i64 x244002_1] 73 (0, 0)) (by (with_reducible repeat (first | refine blk_drewN ?_ _ | refine blk_drew ?_ | refine blk_alloc ?_ _)); refine blk_far ?_ NB243_253.out _; (with_reducible repeat (first | refine blk_drewN ?_ _ | refine blk_drew ?_ | refine blk_alloc ?_ _)); refine blk_far ?_ NB243_253.out _; (with_reducible repeat (first | refine blk_drewN ?_ _ | refine blk_drew ?_ | refine blk_alloc ?_ _)); refine blk_far ?_ NB243_253.out _; (with_reducible repeat (first | refine blk_drewN ?_ _ | refine blk_drew ?_ | refine blk_alloc ?_ _)); refine blk_far ?_ NB243_253.out _; (with_reducible repeat (first | refine blk_drewN ?_ _ | refine blk_drew ?_ | refine blk_alloc ?_ _)); refine blk_far ?_ NB243_253.out _; (with_reducible repeat (first | refine blk_drewN ?_ _ | refine blk_drew ?_ | refine blk_alloc ?_ _)); refine blk_far ?_ NB243_253.out _; (with_reducible repeat (first | refine blk_drewN ?_ _ | refine blk_drew ?_ | refine blk_alloc ?_ _)); exact BK243.out) hb); have n3_ := Aside0.mk (blk_below (g := gb244) (o := .cells #[.int .i64 t250, .int .i64 t251, .int .i64 t252] 26 (0, 0)) (by (with_reducible repeat (first | refine blk_drewN ?_ _ | refine blk_drew ?_ | refine blk_alloc ?_ _)); refine blk_far ?_ NB244_253.out _; (with_reducible repeat (first | refine blk_drewN ?_ _ | refine blk_drew ?_ | refine blk_alloc ?_ _)); refine blk_far ?_ NB244_253.out _; (with_reducible repeat (first | refine blk_drewN ?_ _ | refine blk_drew ?_ | refine blk_alloc ?_ _)); refine blk_far ?_ NB244_253.out _; (with_reducible repeat (first | refine blk_drewN ?_ _ | refine blk_drew ?_ | refine blk_alloc ?_ _)); refine blk_far ?_ NB244_253.out _; (with_reducible repeat (first | refine blk_drewN ?_ _ | refine blk_drew ?_ | refine blk_alloc ?_ _)); refine blk_far ?_ NB244_253.out _; (with_reducible repeat (first | refine blk_drewN ?_ _ | refine blk_drew ?_ | refine blk_alloc ?_ _)); refine blk_far ?_ NB244_253.out _; (with_reducible repeat (first | refine blk_drewN ?_ _ | refine blk_drew ?_ | refine blk_alloc ?_ _)); exact BK244.out) hb); have n4_ := Aside0.mk (blk_below (g := gb249) (o := .cells #[.int .i64 t247, .int .i64 t248] 113 (0, 0)) (by (with_reducible repeat (first | refine blk_drewN ?_ _ | refine blk_drew ?_ | refine blk_alloc ?_ _)); refine blk_far ?_ NB249_253.out _; (with_reducible repeat (first | refine blk_drewN ?_ _ | refine blk_drew ?_ | refine blk_alloc ?_ _)); refine blk_far ?_ NB249_253.out _; (with_reducible repeat (first | refine blk_drewN ?_ _ | refine blk_drew ?_ | refine blk_alloc ?_ _)); refine blk_far ?_ NB249_253.out _; (with_reducible repeat (first | refine blk_drewN ?_ _ | refine blk_drew ?_ | refine blk_alloc ?_ _)); refine blk_far ?_ NB249_253.out _; (with_reducible repeat (first | refine blk_drewN ?_ _ | refine blk_drew ?_ | refine blk_alloc ?_ _)); refine blk_far ?_ NB249_253.out _; (with_reducible repeat (first | refine blk_drewN ?_ _ | refine blk_drew ?_ | refine blk_alloc ?_ _)); refine blk_far ?_ NB249_253.out _; (with_reducible repeat (first | refine blk_drewN ?_ _ | refine blk_drew ?_ | refine blk_alloc ?_ _)); exact BK249.out) hb); have n5_ := Aside0.mk (blk_below (g := gb253) (o := .cells #[.int .u8 t246, .string (cutS a0 (x6_1 : Int).toNat (t247 : Int).toNat), .int .i64 t250, .int .i64 t251, .int .i64 t252, .int .i64 x5_12] 35 (0, 0)) (by (with_reducible repeat (first | refine blk_drewN ?_ _ | refine blk_drew ?_ | refine blk_alloc ?_ _)); refine blk_put (cs := #[.int .u8 t246, .string (cutS a0 (x6_1 : Int).toNat (t247 : Int).toNat), .int .i64 t250, .int .i64 t251, .int .i64 t252, .int .i64 0]) ?_ 5 _ rfl; (with_reducible repeat (first | refine blk_drewN ?_ _ | refine blk_drew ?_ | refine blk_alloc ?_ _)); refine blk_put (cs := #[.int .u8 t246, .string (cutS a0 (x6_1 : Int).toNat (t247 : Int).toNat), .int .i64 t250, .int .i64 t251, .int .i64 0, .int .i64 0]) ?_ 4 _ rfl; (with_reducible repeat (first | refine blk_drewN ?_ _ | refine blk_drew ?_ | refine blk_alloc ?_ _)); refine blk_put (cs := #[.int .u8 t246, .string (cutS a0 (x6_1 : Int).toNat (t247 : Int).toNat), .int .i64 t250, .int .i64 0, .int .i64 0, .int .i64 0]) ?_ 3 _ rfl; (with_reducible repeat (first | refine blk_drewN ?_ _ | refine blk_drew ?_ | refine blk_alloc ?_ _)); refine blk_put (cs := #[.int .u8 t246, .string (cutS a0 (x6_1 : Int).toNat (t247 : Int).toNat), .int .i64 0, .int .i64 0, .int .i64 0, .int .i64 0]) ?_ 2 _ rfl; (with_reducible repeat (first | refine blk_drewN ?_ _ | refine blk_drew ?_ | refine blk_alloc ?_ _)); refine blk_put (cs := #[.int .u8 t246, .string (⟨#[]⟩ : ByteArray), .int .i64 0, .int .i64 0, .int .i64 0, .int .i64 0]) ?_ 1 _ rfl; (with_reducible repeat (first | refine blk_drewN ?_ _ | refine blk_drew ?_ | refine blk_alloc ?_ _)); refine blk_put (cs := #[.int .u8 0, .string (⟨#[]⟩ : ByteArray), .int .i64 0, .int .i64 0, .int .i64 0, .int .i64 0]) ?_ 0 _ rfl; (with_reducible repeat (first | refine blk_drewN ?_ _ | refine blk_drew ?_ | refine blk_alloc ?_ _)); exact BK253.out) hb); have n6_ := Aside0.mk (below_step (by repeat (first | (with_reducible first | exact HB.out | apply below_alloc | apply pw_below_drewN | apply below_drew1 | refine below_set ?_ GE242.out | refine below_set ?_ GE243.out | refine below_set ?_ GE244.out | refine below_set ?_ GE249.out | refine below_set ?_ GE253.out) | exact HB.out)) hb); clear HO_244000; clear BK242; clear BK243; clear BK244; clear BK249; clear BK253; clear HB; have HO_244000 := n0_; have BK242 := n1_; have BK243 := n2_; have BK244 := n3_; have BK249 := n4_; have BK253 := n5_; have HB := n6_; clear n0_ n1_ n2_ n3_ n4_ n5_ n6_; (try clear hb); (try clear hb2); (try clear hk); (try clear hi)))
                                    (try simp only [Act.put, List.setIfInBounds_toArray, List.set_cons_zero, List.set_cons_succ])
                                    go_cut [81] (fun v81 wc => ∃ (kq : Nat) (x81_42 : Bool), v81 = .bool x81_42 ∧ Aside0 (colophonref10_Find.j3 kq a0 t246 x81_42 x244000_1 x244001_1 x244002_1 t250 t251 t252 t247 t248 t246 (cutS a0 (x6_1 : Int).toNat (t247 : Int).toNat) t250 t251 t252 x5_12 = some (r1, r2, r3)) ∧ Aside0 (kq ≤ kj14) ∧ Aside0 (Kd.R k35 35 wc w.heap.size (fun k_ => k_ ≠ gb253) u244000 x244000_1) ∧ Aside0 (wc.heap[gb242]? = some (.cells #[(.slice none 0 0), .int .i64 x243001_1, .int .i64 x243002_1] 73 (0, 0))) ∧ Aside0 (wc.heap[gb243]? = some (.cells #[u244000, .int .i64 x244001_1, .int .i64 x244002_1] 73 (0, 0))) ∧ Aside0 (wc.heap[gb244]? = some (.cells #[.int .i64 t250, .int .i64 t251, .int .i64 t252] 26 (0, 0))) ∧ Aside0 (wc.heap[gb249]? = some (.cells #[.int .i64 t247, .int .i64 t248] 113 (0, 0))) ∧ Aside0 (wc.heap[gb253]? = some (.cells #[.int .u8 t246, .string (cutS a0 (x6_1 : Int).toNat (t247 : Int).toNat), .int .i64 t250, .int .i64 t251, .int .i64 t252, .int .i64 x5_12] 35 (0, 0))) ∧ Aside0 (Below w.heap.size w wc))
                                    case first =>
                                      have H := HC43.out
                                      clear HC43
                                      by_cases c72 : t246 = 1
                                      · rw [if_pos c72] at H
                                        have c72b0 : (t246 == 1) = true := beq_iff_eq.mpr c72
                                        have c72b1 : (t246 != 1) = false := bne_eq_false_iff_eq.mpr c72
                                        clear c72
                                        (first | rw [c72b0] | (simp only [i64_w, i32_w]; rw [c72b0]) | skip)
                                        have H' := Aside0.mk H
                                        clear H
                                        go_wp2
                                        go_meet
                                        case rel => exact ⟨_, (t254), (by first | rfl | (simp; done) | (simp [*]; done)), H', ⟨by have := HK1.out; have := HJ12.out; have := HJ14.out; first | omega | exact Nat.le_refl _⟩, ⟨by (with_reducible repeat (first | apply Kd.R_alloc | apply Kd.R_drewN | apply Kd.R_drew)); exact Kd.R_mono HO_244000.out (fun _ hk => hk.2)⟩, ⟨by (with_reducible repeat (first | refine blk_drewN ?_ _ | refine blk_drew ?_ | refine blk_alloc ?_ _)); exact BK242.out⟩, ⟨by (with_reducible repeat (first | refine blk_drewN ?_ _ | refine blk_drew ?_ | refine blk_alloc ?_ _)); exact BK243.out⟩, ⟨by (with_reducible repeat (first | refine blk_drewN ?_ _ | refine blk_drew ?_ | refine blk_alloc ?_ _)); exact BK244.out⟩, ⟨by (with_reducible repeat (first | refine blk_drewN ?_ _ | refine blk_drew ?_ | refine blk_alloc ?_ _)); exact BK249.out⟩, ⟨by (with_reducible repeat (first | refine blk_drewN ?_ _ | refine blk_drew ?_ | refine blk_alloc ?_ _)); exact BK253.out⟩, ⟨by repeat (first | (with_reducible first | exact HB.out | apply below_alloc | apply pw_below_drewN | apply below_drew1 | refine below_set ?_ GE242.out | refine below_set ?_ GE243.out | refine below_set ?_ GE244.out | refine below_set ?_ GE249.out | refine below_set ?_ GE253.out) | exact HB.out)⟩⟩
                                      · rw [if_neg c72] at H
                                        have c72b0 : (t246 == 1) = false := beq_eq_false_iff_ne.mpr c72
                                        have c72b1 : (t246 != 1) = true := bne_iff_ne.mpr c72
                                        (first | rw [c72b0] | (simp only [i64_w, i32_w]; rw [c72b0]) | skip)
                                        have H' := Aside0.mk H
                                        clear H
                                        go_wp2
                                        go_meet
                                        case rel => exact ⟨_, (false), (by first | rfl | (simp; done) | (simp [*]; done)), H', ⟨by have := HK1.out; have := HJ12.out; have := HJ14.out; first | omega | exact Nat.le_refl _⟩, ⟨by (with_reducible repeat (first | apply Kd.R_alloc | apply Kd.R_drewN | apply Kd.R_drew)); exact Kd.R_mono HO_244000.out (fun _ hk => hk.2)⟩, ⟨by (with_reducible repeat (first | refine blk_drewN ?_ _ | refine blk_drew ?_ | refine blk_alloc ?_ _)); exact BK242.out⟩, ⟨by (with_reducible repeat (first | refine blk_drewN ?_ _ | refine blk_drew ?_ | refine blk_alloc ?_ _)); exact BK243.out⟩, ⟨by (with_reducible repeat (first | refine blk_drewN ?_ _ | refine blk_drew ?_ | refine blk_alloc ?_ _)); exact BK244.out⟩, ⟨by (with_reducible repeat (first | refine blk_drewN ?_ _ | refine blk_drew ?_ | refine blk_alloc ?_ _)); exact BK249.out⟩, ⟨by (with_reducible repeat (first | refine blk_drewN ?_ _ | refine blk_drew ?_ | refine blk_alloc ?_ _)); exact BK253.out⟩, ⟨by repeat (first | (with_reducible first | exact HB.out | apply below_alloc | apply pw_below_drewN | apply below_drew1 | refine below_set ?_ GE242.out | refine below_set ?_ GE243.out | refine below_set ?_ GE244.out | refine below_set ?_ GE249.out | refine below_set ?_ GE253.out) | exact HB.out)⟩⟩
                                    case rest =>
                                      clear HC43
                                      try clear c1
                                      try clear p1
                                      try clear q1
                                      try clear hx1
                                      try clear c2
                                      try clear p2
                                      try clear q2
                                      try clear hx2
                                      try clear c3
                                      try clear c4
                                      try clear c6
                                      try clear p6
                                      try clear c7
                                      try clear c8
                                      try clear c10
                                      try clear c10b0
                                      try clear c11
                                      try clear c11b0
                                      try clear p12
                                      try clear q12
                                      try clear hx12
                                      try clear c14
                                      try clear c14b0
                                      try clear c14b1
                                      try clear c16
                                      try clear c16b0
                                      try clear c17
                                      try clear c17b0
                                      try clear p18
                                      try clear q18
                                      try clear hx18
                                      try clear c19
                                      try clear c19b0
                                      try clear c19b1
                                      try clear p20
                                      try clear q20
                                      try clear hx20
                                      try clear c23
                                      try clear c25
                                      try clear c25b0
                                      try clear c25b1
                                      try clear c27
                                      try clear c28
                                      try clear c31
                                      try clear c34
                                      try clear c34b0
                                      try clear c34b1
                                      try clear c35
                                      try clear c35b0
                                      try clear c35b1
                                      try clear c36
                                      try clear c36b0
                                      try clear c36b1
                                      try clear c37
                                      try clear c37b0
                                      try clear c37b1
                                      try clear c39
                                      try clear c39b0
                                      try clear c39b1
                                      try clear c40
                                      try clear c40b0
                                      try clear c40b1
                                      try clear c41
                                      try clear c41b0
                                      try clear c41b1
                                      try clear c42
                                      try clear c47
                                      try clear c48
                                      try clear c49
                                      try clear p64
                                      try clear c66
                                      try clear c67
                                      try clear c68
                                      try clear c69
                                      try clear c72
                                      try clear c72b0
                                      try clear c72b1
                                      try clear hcz29_0
                                      try clear hcz29_1
                                      try clear hcz29_2
                                      try clear hcz32_0
                                      try clear hcz32_1
                                      try clear hcz32_2
                                      try clear hcz50_0
                                      try clear hcz50_1
                                      try clear hcz5_0
                                      try clear hcz5_1
                                      try clear hcz5_2
                                      try clear hcz70_0
                                      try clear hcz70_1
                                      try clear hcz70_2
                                      try clear hcz70_3
                                      try clear hcz70_4
                                      try clear hcz70_5
                                      try clear hcz9_0
                                      try clear hcz9_1
                                      try clear hcz9_2
                                      try clear hfz29_0
                                      try clear hfz29_1
                                      try clear hfz29_2
                                      try clear hfz32_0
                                      try clear hfz32_1
                                      try clear hfz32_2
                                      try clear hfz50_0
                                      try clear hfz50_1
                                      try clear hfz5_0
                                      try clear hfz5_1
                                      try clear hfz5_2
                                      try clear hfz70_0
                                      try clear hfz70_1
                                      try clear hfz70_2
                                      try clear hfz70_3
                                      try clear hfz70_4
                                      try clear hfz70_5
                                      try clear hfz9_0
                                      try clear hfz9_1
                                      try clear hfz9_2
                                      try clear p1
                                      try clear p12
                                      try clear p18
                                      try clear p2
                                      try clear p20
                                      try clear p6
                                      try clear q1
                                      try clear q12
                                      try clear q18
                                      try clear q2
                                      try clear q20
                                      obtain ⟨kq, x81_42, rfl, HA, HJ42, HO_244000, BK242, BK243, BK244, BK249, BK253, HB⟩ := hcut
                                      cases kq with
                                      | zero => exact absurd HA.out (by simp [colophonref10_Find.j3])
                                      | succ kj42 =>
                                        have H := HA.out
                                        clear HA
                                        simp only [colophonref10_Find.j3] at H
                                        have HC73 := Aside0.mk H
                                        clear H
                                        go_upto_if 81 with (fail)
                                        go_cut [] (fun wc => ∃ (kq : Nat) (x254000_72 : Int), Aside0 (colophonref10_Find.j4 kq a0 t246 x244000_1 x244001_1 x244002_1 t250 t251 t252 t247 t248 x254000_72 (cutS a0 (x6_1 : Int).toNat (t247 : Int).toNat) t250 t251 t252 x5_12 = some (r1, r2, r3)) ∧ Aside0 (kq ≤ kj42) ∧ Aside0 (Kd.R k35 35 wc w.heap.size (fun k_ => k_ ≠ gb253) u244000 x244000_1) ∧ Aside0 (wc.heap[gb242]? = some (.cells #[(.slice none 0 0), .int .i64 x243001_1, .int .i64 x243002_1] 73 (0, 0))) ∧ Aside0 (wc.heap[gb243]? = some (.cells #[u244000, .int .i64 x244001_1, .int .i64 x244002_1] 73 (0, 0))) ∧ Aside0 (wc.heap[gb244]? = some (.cells #[.int .i64 t250, .int .i64 t251, .int .i64 t252] 26 (0, 0))) ∧ Aside0 (wc.heap[gb249]? = some (.cells #[.int .i64 t247, .int .i64 t248] 113 (0, 0))) ∧ Aside0 (wc.heap[gb253]? = some (.cells #[.int .u8 x254000_72, .string (cutS a0 (x6_1 : Int).toNat (t247 : Int).toNat), .int .i64 t250, .int .i64 t251, .int .i64 t252, .int .i64 x5_12] 35 (0, 0))) ∧ Aside0 (Below w.heap.size w wc))
                                        case first =>
                                          have H := HC73.out
                                          clear HC73
                                          by_cases c74 : x81_42 = true
                                          · subst c74
                                            have H1 : (colophonref10_Find.j4 kj42 a0 t246 x244000_1 x244001_1 x244002_1 t250 t251 t252 t247 t248 2 (cutS a0 (x6_1 : Int).toNat (t247 : Int).toNat) t250 t251 t252 x5_12) = some (r1, r2, r3) := by rw [if_pos rfl] at H; exact H
                                            clear H
                                            have H := H1
                                            clear H1
                                            have H' := Aside0.mk H
                                            clear H
                                            have hnb75 := NB253_242.out
                                            have hnc75 := NB242_253.out
                                            have hnb76 := NB253_243.out
                                            have hnc76 := NB243_253.out
                                            have hnb77 := NB253_244.out
                                            have hnc77 := NB244_253.out
                                            have hnb78 := NB253_249.out
                                            have hnc78 := NB249_253.out
                                            have hcz79_0 : wc.cell? ⟨gb253, 0, none⟩ = some (.int .u8 t246) := (blk_cell BK253.out 0).trans rfl
                                            have hcz79_1 : wc.cell? ⟨gb253, 1, none⟩ = some (.string (cutS a0 (x6_1 : Int).toNat (t247 : Int).toNat)) := (blk_cell BK253.out 1).trans rfl
                                            have hcz79_2 : wc.cell? ⟨gb253, 2, none⟩ = some (.int .i64 t250) := (blk_cell BK253.out 2).trans rfl
                                            have hcz79_3 : wc.cell? ⟨gb253, 3, none⟩ = some (.int .i64 t251) := (blk_cell BK253.out 3).trans rfl
                                            have hcz79_4 : wc.cell? ⟨gb253, 4, none⟩ = some (.int .i64 t252) := (blk_cell BK253.out 4).trans rfl
                                            have hcz79_5 : wc.cell? ⟨gb253, 5, none⟩ = some (.int .i64 x5_12) := (blk_cell BK253.out 5).trans rfl
                                            have hfz79_0 := blk_frozen BK253.out 0
                                            have hfz79_1 := blk_frozen BK253.out 1
                                            have hfz79_2 := blk_frozen BK253.out 2
                                            have hfz79_3 := blk_frozen BK253.out 3
                                            have hfz79_4 := blk_frozen BK253.out 4
                                            have hfz79_5 := blk_frozen BK253.out 5
                                            go_wp2
                                            go_meet
                                            case rel => exact ⟨_, (2), H', ⟨by have := HK1.out; have := HJ12.out; have := HJ14.out; have := HJ42.out; first | omega | exact Nat.le_refl _⟩, ⟨by (with_reducible repeat (first | apply Kd.R_alloc | apply Kd.R_drewN | apply Kd.R_drew)); exact Kd.R_mono (Kd.R_far (p := ⟨gb253, 0, none⟩) (Kd.R_mono HO_244000.out (fun k_ hk => (⟨hk, hk⟩ : _ ∧ k_ ≠ gb253))) (fun _ hk => hk.2) (.int .u8 2)) (fun _ hk => hk.1)⟩, ⟨by (with_reducible repeat (first | refine blk_drewN ?_ _ | refine blk_drew ?_ | refine blk_alloc ?_ _)); refine blk_far ?_ NB242_253.out _; (with_reducible repeat (first | refine blk_drewN ?_ _ | refine blk_drew ?_ | refine blk_alloc ?_ _)); exact BK242.out⟩, ⟨by (with_reducible repeat (first | refine blk_drewN ?_ _ | refine blk_drew ?_ | refine blk_alloc ?_ _)); refine blk_far ?_ NB243_253.out _; (with_reducible repeat (first | refine blk_drewN ?_ _ | refine blk_drew ?_ | refine blk_alloc ?_ _)); exact BK243.out⟩, ⟨by (with_reducible repeat (first | refine blk_drewN ?_ _ | refine blk_drew ?_ | refine blk_alloc ?_ _)); refine blk_far ?_ NB244_253.out _; (with_reducible repeat (first | refine blk_drewN ?_ _ | refine blk_drew ?_ | refine blk_alloc ?_ _)); exact BK244.out⟩, ⟨by (with_reducible repeat (first | refine blk_drewN ?_ _ | refine blk_drew ?_ | refine blk_alloc ?_ _)); refine blk_far ?_ NB249_253.out _; (with_reducible repeat (first | refine blk_drewN ?_ _ | refine blk_drew ?_ | refine blk_alloc ?_ _)); exact BK249.out⟩, ⟨by (with_reducible repeat (first | refine blk_drewN ?_ _ | refine blk_drew ?_ | refine blk_alloc ?_ _)); refine blk_put (cs := #[.int .u8 t246, .string (cutS a0 (x6_1 : Int).toNat (t247 : Int).toNat), .int .i64 t250, .int .i64 t251, .int .i64 t252, .int .i64 x5_12]) ?_ 0 _ rfl; (with_reducible repeat (first | refine blk_drewN ?_ _ | refine blk_drew ?_ | refine blk_alloc ?_ _)); exact BK253.out⟩, ⟨by repeat (first | (with_reducible first | exact HB.out | apply below_alloc | apply pw_below_drewN | apply below_drew1 | refine below_set ?_ GE242.out | refine below_set ?_ GE243.out | refine below_set ?_ GE244.out | refine below_set ?_ GE249.out | refine below_set ?_ GE253.out) | exact HB.out)⟩⟩
                                          · replace c74 := Bool.eq_false_iff.mpr c74
                                            subst c74
                                            have H1 : (colophonref10_Find.j4 kj42 a0 t246 x244000_1 x244001_1 x244002_1 t250 t251 t252 t247 t248 t246 (cutS a0 (x6_1 : Int).toNat (t247 : Int).toNat) t250 t251 t252 x5_12) = some (r1, r2, r3) := by rw [if_neg (show ¬ (false = true) by decide)] at H; exact H
                                            clear H
                                            have H := H1
                                            clear H1
                                            have H' := Aside0.mk H
                                            clear H
                                            go_wp2
                                            go_meet
                                            case rel => exact ⟨_, (t246), H', ⟨by have := HK1.out; have := HJ12.out; have := HJ14.out; have := HJ42.out; first | omega | exact Nat.le_refl _⟩, ⟨by (with_reducible repeat (first | apply Kd.R_alloc | apply Kd.R_drewN | apply Kd.R_drew)); exact HO_244000.out⟩, ⟨by (with_reducible repeat (first | refine blk_drewN ?_ _ | refine blk_drew ?_ | refine blk_alloc ?_ _)); exact BK242.out⟩, ⟨by (with_reducible repeat (first | refine blk_drewN ?_ _ | refine blk_drew ?_ | refine blk_alloc ?_ _)); exact BK243.out⟩, ⟨by (with_reducible repeat (first | refine blk_drewN ?_ _ | refine blk_drew ?_ | refine blk_alloc ?_ _)); exact BK244.out⟩, ⟨by (with_reducible repeat (first | refine blk_drewN ?_ _ | refine blk_drew ?_ | refine blk_alloc ?_ _)); exact BK249.out⟩, ⟨by (with_reducible repeat (first | refine blk_drewN ?_ _ | refine blk_drew ?_ | refine blk_alloc ?_ _)); exact BK253.out⟩, ⟨by repeat (first | (with_reducible first | exact HB.out | apply below_alloc | apply pw_below_drewN | apply below_drew1 | refine below_set ?_ GE242.out | refine below_set ?_ GE243.out | refine below_set ?_ GE244.out | refine below_set ?_ GE249.out | refine below_set ?_ GE253.out) | exact HB.out)⟩⟩
                                        case rest =>
                                          clear HC73
                                          try clear c1
                                          try clear p1
                                          try clear q1
                                          try clear hx1
                                          try clear c2
                                          try clear p2
                                          try clear q2
                                          try clear hx2
                                          try clear c3
                                          try clear c4
                                          try clear c6
                                          try clear p6
                                          try clear c7
                                          try clear c8
                                          try clear c10
                                          try clear c10b0
                                          try clear c11
                                          try clear c11b0
                                          try clear p12
                                          try clear q12
                                          try clear hx12
                                          try clear c14
                                          try clear c14b0
                                          try clear c14b1
                                          try clear c16
                                          try clear c16b0
                                          try clear c17
                                          try clear c17b0
                                          try clear p18
                                          try clear q18
                                          try clear hx18
                                          try clear c19
                                          try clear c19b0
                                          try clear c19b1
                                          try clear p20
                                          try clear q20
                                          try clear hx20
                                          try clear c23
                                          try clear c25
                                          try clear c25b0
                                          try clear c25b1
                                          try clear c27
                                          try clear c28
                                          try clear c31
                                          try clear c34
                                          try clear c34b0
                                          try clear c34b1
                                          try clear c35
                                          try clear c35b0
                                          try clear c35b1
                                          try clear c36
                                          try clear c36b0
                                          try clear c36b1
                                          try clear c37
                                          try clear c37b0
                                          try clear c37b1
                                          try clear c39
                                          try clear c39b0
                                          try clear c39b1
                                          try clear c40
                                          try clear c40b0
                                          try clear c40b1
                                          try clear c41
                                          try clear c41b0
                                          try clear c41b1
                                          try clear c42
                                          try clear c47
                                          try clear c48
                                          try clear c49
                                          try clear p64
                                          try clear c66
                                          try clear c67
                                          try clear c68
                                          try clear c69
                                          try clear c72
                                          try clear c72b0
                                          try clear c72b1
                                          try clear c74
                                          try clear c75
                                          try clear c76
                                          try clear c77
                                          try clear c78
                                          try clear hcz29_0
                                          try clear hcz29_1
                                          try clear hcz29_2
                                          try clear hcz32_0
                                          try clear hcz32_1
                                          try clear hcz32_2
                                          try clear hcz50_0
                                          try clear hcz50_1
                                          try clear hcz5_0
                                          try clear hcz5_1
                                          try clear hcz5_2
                                          try clear hcz70_0
                                          try clear hcz70_1
                                          try clear hcz70_2
                                          try clear hcz70_3
                                          try clear hcz70_4
                                          try clear hcz70_5
                                          try clear hcz79_0
                                          try clear hcz79_1
                                          try clear hcz79_2
                                          try clear hcz79_3
                                          try clear hcz79_4
                                          try clear hcz79_5
                                          try clear hcz9_0
                                          try clear hcz9_1
                                          try clear hcz9_2
                                          try clear hfz29_0
                                          try clear hfz29_1
                                          try clear hfz29_2
                                          try clear hfz32_0
                                          try clear hfz32_1
                                          try clear hfz32_2
                                          try clear hfz50_0
                                          try clear hfz50_1
                                          try clear hfz5_0
                                          try clear hfz5_1
                                          try clear hfz5_2
                                          try clear hfz70_0
                                          try clear hfz70_1
                                          try clear hfz70_2
                                          try clear hfz70_3
                                          try clear hfz70_4
                                          try clear hfz70_5
                                          try clear hfz79_0
                                          try clear hfz79_1
                                          try clear hfz79_2
                                          try clear hfz79_3
                                          try clear hfz79_4
                                          try clear hfz79_5
                                          try clear hfz9_0
                                          try clear hfz9_1
                                          try clear hfz9_2
                                          try clear p1
                                          try clear p12
                                          try clear p18
                                          try clear p2
                                          try clear p20
                                          try clear p6
                                          try clear p64
                                          try clear q1
                                          try clear q12
                                          try clear q18
                                          try clear q2
                                          try clear q20
                                          obtain ⟨kq, x254000_72, HA, HJ72, HO_244000, BK242, BK243, BK244, BK249, BK253, HB⟩ := hcut
                                          cases kq with
                                          | zero => exact absurd HA.out (by simp [colophonref10_Find.j4])
                                          | succ kj72 =>
                                            have H := HA.out
                                            clear HA
                                            simp only [colophonref10_Find.j4] at H
                                            have H' := Aside0.mk H
                                            clear H
                                            go_wp2
                                            go_loopg [] kj72 (fun kq w' => ∃ (x254001_6 : ByteArray), Aside0 (colophonref10_Find.l1 kq a0 t246 x244000_1 x244001_1 x244002_1 t250 t251 t252 t247 t248 x254000_72 x254001_6 t250 t251 t252 x5_12 = some (r1, r2, r3)) ∧ Aside0 (kq ≤ kj72) ∧ Aside0 (Kd.R k35 35 w' w.heap.size (fun k_ => k_ ≠ gb253) u244000 x244000_1) ∧ Aside0 (w'.heap[gb242]? = some (.cells #[(.slice none 0 0), .int .i64 x243001_1, .int .i64 x243002_1] 73 (0, 0))) ∧ Aside0 (w'.heap[gb243]? = some (.cells #[u244000, .int .i64 x244001_1, .int .i64 x244002_1] 73 (0, 0))) ∧ Aside0 (w'.heap[gb244]? = some (.cells #[.int .i64 t250, .int .i64 t251, .int .i64 t252] 26 (0, 0))) ∧ Aside0 (w'.heap[gb249]? = some (.cells #[.int .i64 t247, .int .i64 t248] 113 (0, 0))) ∧ Aside0 (w'.heap[gb253]? = some (.cells #[.int .u8 x254000_72, .string x254001_6, .int .i64 t250, .int .i64 t251, .int .i64 t252, .int .i64 x5_12] 35 (0, 0))) ∧ Aside0 (Below w.heap.size w w'))
                                            case atStart => exact ⟨((cutS a0 (x6_1 : Int).toNat (t247 : Int).toNat)), H', ⟨Nat.le_refl _⟩, ⟨by (with_reducible repeat (first | apply Kd.R_alloc | apply Kd.R_drewN | apply Kd.R_drew)); exact HO_244000.out⟩, ⟨by (with_reducible repeat (first | refine blk_drewN ?_ _ | refine blk_drew ?_ | refine blk_alloc ?_ _)); exact BK242.out⟩, ⟨by (with_reducible repeat (first | refine blk_drewN ?_ _ | refine blk_drew ?_ | refine blk_alloc ?_ _)); exact BK243.out⟩, ⟨by (with_reducible repeat (first | refine blk_drewN ?_ _ | refine blk_drew ?_ | refine blk_alloc ?_ _)); exact BK244.out⟩, ⟨by (with_reducible repeat (first | refine blk_drewN ?_ _ | refine blk_drew ?_ | refine blk_alloc ?_ _)); exact BK249.out⟩, ⟨by (with_reducible repeat (first | refine blk_drewN ?_ _ | refine blk_drew ?_ | refine blk_alloc ?_ _)); exact BK253.out⟩, ⟨by repeat (first | (with_reducible first | exact HB.out | apply below_alloc | apply pw_below_drewN | apply below_drew1 | refine below_set ?_ GE242.out | refine below_set ?_ GE243.out | refine below_set ?_ GE244.out | refine below_set ?_ GE249.out | refine below_set ?_ GE253.out) | exact HB.out)⟩⟩
                                            case round =>
                                              clear H'
                                              try clear c1
                                              try clear p1
                                              try clear q1
                                              try clear hx1
                                              try clear c2
                                              try clear p2
                                              try clear q2
                                              try clear hx2
                                              try clear c3
                                              try clear c4
                                              try clear c6
                                              try clear p6
                                              try clear c7
                                              try clear c8
                                              try clear c10
                                              try clear c10b0
                                              try clear c11
                                              try clear c11b0
                                              try clear p12
                                              try clear q12
                                              try clear hx12
                                              try clear c14
                                              try clear c14b0
                                              try clear c14b1
                                              try clear c16
                                              try clear c16b0
                                              try clear c17
                                              try clear c17b0
                                              try clear p18
                                              try clear q18
                                              try clear hx18
                                              try clear c19
                                              try clear c19b0
                                              try clear c19b1
                                              try clear p20
                                              try clear q20
                                              try clear hx20
                                              try clear c23
                                              try clear c25
                                              try clear c25b0
                                              try clear c25b1
                                              try clear c27
                                              try clear c28
                                              try clear c31
                                              try clear c34
                                              try clear c34b0
                                              try clear c34b1
                                              try clear c35
                                              try clear c35b0
                                              try clear c35b1
                                              try clear c36
                                              try clear c36b0
                                              try clear c36b1
                                              try clear c37
                                              try clear c37b0
                                              try clear c37b1
                                              try clear c39
                                              try clear c39b0
                                              try clear c39b1
                                              try clear c40
                                              try clear c40b0
                                              try clear c40b1
                                              try clear c41
                                              try clear c41b0
                                              try clear c41b1
                                              try clear c42
                                              try clear c47
                                              try clear c48
                                              try clear c49
                                              try clear p64
                                              try clear c66
                                              try clear c67
                                              try clear c68
                                              try clear c69
                                              try clear c72
                                              try clear c72b0
                                              try clear c72b1
                                              try clear c74
                                              try clear c75
                                              try clear c76
                                              try clear c77
                                              try clear c78
                                              try clear hcz29_0
                                              try clear hcz29_1
                                              try clear hcz29_2
                                              try clear hcz32_0
                                              try clear hcz32_1
                                              try clear hcz32_2
                                              try clear hcz50_0
                                              try clear hcz50_1
                                              try clear hcz5_0
                                              try clear hcz5_1
                                              try clear hcz5_2
                                              try clear hcz70_0
                                              try clear hcz70_1
                                              try clear hcz70_2
                                              try clear hcz70_3
                                              try clear hcz70_4
                                              try clear hcz70_5
                                              try clear hcz79_0
                                              try clear hcz79_1
                                              try clear hcz79_2
                                              try clear hcz79_3
                                              try clear hcz79_4
                                              try clear hcz79_5
                                              try clear hcz9_0
                                              try clear hcz9_1
                                              try clear hcz9_2
                                              try clear hfz29_0
                                              try clear hfz29_1
                                              try clear hfz29_2
                                              try clear hfz32_0
                                              try clear hfz32_1
                                              try clear hfz32_2
                                              try clear hfz50_0
                                              try clear hfz50_1
                                              try clear hfz5_0
                                              try clear hfz5_1
                                              try clear hfz5_2
                                              try clear hfz70_0
                                              try clear hfz70_1
                                              try clear hfz70_2
                                              try clear hfz70_3
                                              try clear hfz70_4
                                              try clear hfz70_5
                                              try clear hfz79_0
                                              try clear hfz79_1
                                              try clear hfz79_2
                                              try clear hfz79_3
                                              try clear hfz79_4
                                              try clear hfz79_5
                                              try clear hfz9_0
                                              try clear hfz9_1
                                              try clear hfz9_2
                                              try clear p1
                                              try clear p12
                                              try clear p18
                                              try clear p2
                                              try clear p20
                                              try clear p6
                                              try clear p64
                                              try clear q1
                                              try clear q12
                                              try clear q18
                                              try clear q2
                                              try clear q20
                                              obtain ⟨x254001_6, HA, HK6, HO_244000, BK242, BK243, BK244, BK249, BK253, HB⟩ := hrel
                                              cases gk with
                                              | zero => exact absurd HA.out (by simp [colophonref10_Find.l1])
                                              | succ k6 =>
                                                have H := HA.out
                                                clear HA
                                                simp only [colophonref10_Find.l1] at H
                                                by_cases c80 : t246 = 7
                                                · rw [if_pos c80] at H
                                                  have c80b0 : (t246 == 7) = true := beq_iff_eq.mpr c80
                                                  have c80b1 : (t246 != 7) = false := bne_eq_false_iff_eq.mpr c80
                                                  clear c80
                                                  obtain ⟨ji81, hji81⟩ : ∃ j_ : Int, (wrap64 ((x254001_6.size : Int) - 1)) = j_ := ⟨_, rfl⟩
                                                  replace H : (if 0 ≤ (ji81) then (if (ji81) < (x254001_6.size : Int) then ((colophonref10_blank.f (bt x254001_6 (ji81))).bind fun t255 => (if t255 = true then (if (ji81) ≤ (x254001_6.size : Int) then (colophonref10_Find.l1 k6 a0 t246 x244000_1 x244001_1 x244002_1 t250 t251 t252 t247 t248 x254000_72 (cutS x254001_6 0 ((ji81) : Int).toNat) t250 t251 t252 x5_12) else (none)) else (if x244000_1.length < 2513169434916 then (colophonref10_Find.l0 k6 a0 0 t247 (x244000_1 ++ [(⟨x254000_72, x254001_6, (⟨t250, t251, t252⟩ : S26), x5_12⟩ : S35)]) x244001_1 x244002_1 t250 t251 t252) else (none)))) else (none)) else (none)) = some (r1, r2, r3) := by first | (rw [hji81] at H; exact H) | (simp only [hji81] at H ⊢; exact H)
                                                  have hji81w : (IntKind.i64.wrap ((x254001_6.size : Int) - 1)) = ji81 := (i64_w _).trans hji81
                                                  by_cases c82 : 0 ≤ (ji81)
                                                  · rw [if_pos c82] at H
                                                    have c82b0 : decide (0 ≤ (ji81)) = true := decide_eq_true c82
                                                    clear c82
                                                    by_cases c83 : (ji81) < (x254001_6.size : Int)
                                                    · rw [if_pos c83] at H
                                                      have c83b0 : decide ((ji81) < (x254001_6.size : Int)) = true := decide_eq_true c83
                                                      clear c83
                                                      replace H := Option.bind_eq_some_iff.mp H
                                                      obtain ⟨t255, A850, H⟩ := H
                                                      replace H : (if t255 = true then (if (ji81) ≤ (x254001_6.size : Int) then (colophonref10_Find.l1 k6 a0 t246 x244000_1 x244001_1 x244002_1 t250 t251 t252 t247 t248 x254000_72 (cutS x254001_6 0 ((ji81) : Int).toNat) t250 t251 t252 x5_12) else (none)) else (if x244000_1.length < 2513169434916 then (colophonref10_Find.l0 k6 a0 0 t247 (x244000_1 ++ [(⟨x254000_72, x254001_6, (⟨t250, t251, t252⟩ : S26), x5_12⟩ : S35)]) x244001_1 x244002_1 t250 t251 t252) else (none))) = some (r1, r2, r3) := H
                                                      have A85 := Aside0.mk A850
                                                      clear A850
                                                      by_cases c86 : t255 = true
                                                      · subst c86
                                                        have H1 : (if (ji81) ≤ (x254001_6.size : Int) then (colophonref10_Find.l1 k6 a0 t246 x244000_1 x244001_1 x244002_1 t250 t251 t252 t247 t248 x254000_72 (cutS x254001_6 0 ((ji81) : Int).toNat) t250 t251 t252 x5_12) else (none)) = some (r1, r2, r3) := by rw [if_pos rfl] at H; exact H
                                                        clear H
                                                        have H := H1
                                                        clear H1
                                                        have c87b0 := eq_true (of_decide_eq_true (by first | (with_reducible assumption) | assumption) : 0 ≤ (ji81))
                                                        by_cases c88 : (ji81) ≤ (x254001_6.size : Int)
                                                        · rw [if_pos c88] at H
                                                          have c88b0 := eq_true c88
                                                          have c88b1 : decide ((ji81) ≤ (x254001_6.size : Int)) = true := decide_eq_true c88
                                                          clear c88
                                                          have H' := Aside0.mk H
                                                          clear H
                                                          have hnb89 := NB253_242.out
                                                          have hnc89 := NB242_253.out
                                                          have hnb90 := NB253_243.out
                                                          have hnc90 := NB243_253.out
                                                          have hnb91 := NB253_244.out
                                                          have hnc91 := NB244_253.out
                                                          have hnb92 := NB253_249.out
                                                          have hnc92 := NB249_253.out
                                                          have hcz93_0 : wr.cell? ⟨gb253, 0, none⟩ = some (.int .u8 x254000_72) := (blk_cell BK253.out 0).trans rfl
                                                          have hcz93_1 : wr.cell? ⟨gb253, 1, none⟩ = some (.string x254001_6) := (blk_cell BK253.out 1).trans rfl
                                                          have hcz93_2 : wr.cell? ⟨gb253, 2, none⟩ = some (.int .i64 t250) := (blk_cell BK253.out 2).trans rfl
                                                          have hcz93_3 : wr.cell? ⟨gb253, 3, none⟩ = some (.int .i64 t251) := (blk_cell BK253.out 3).trans rfl
                                                          have hcz93_4 : wr.cell? ⟨gb253, 4, none⟩ = some (.int .i64 t252) := (blk_cell BK253.out 4).trans rfl
                                                          have hcz93_5 : wr.cell? ⟨gb253, 5, none⟩ = some (.int .i64 x5_12) := (blk_cell BK253.out 5).trans rfl
                                                          have hfz93_0 := blk_frozen BK253.out 0
                                                          have hfz93_1 := blk_frozen BK253.out 1
                                                          have hfz93_2 := blk_frozen BK253.out 2
                                                          have hfz93_3 := blk_frozen BK253.out 3
                                                          have hfz93_4 := blk_frozen BK253.out 4
                                                          have hfz93_5 := blk_frozen BK253.out 5
                                                          have p84 : 0 ≤ ((ji81) : Int) := of_decide_eq_true (by first | (with_reducible assumption) | assumption)
                                                          have q84 : (ji81) < (x254001_6.size : Int) := of_decide_eq_true (by first | (with_reducible assumption) | assumption)
                                                          have hx84 := bt_at x254001_6 (ji81)
                                                          replace p84 := eq_true p84
                                                          replace q84 := eq_true q84
                                                          go_wp2_with (first | (go_at_call 85; (with_reducible refine (colophonref10_blank.calls (bt x254001_6 (ji81)) true _ A85.out).mono ?_); rintro e w94 ⟨rfl, hb⟩; have n0_ := Aside0.mk (Kd.R_below (by (with_reducible repeat (first | apply Kd.R_alloc | apply Kd.R_drewN | apply Kd.R_drew)); exact HO_244000.out) hb); have n1_ := Aside0.mk (blk_below (g := gb242) (o := .cells #[.slice none 0 0, .int .i64 x243001_1, .int .i64 x243002_1] 73 (0, 0)) (by (with_reducible repeat (first | refine blk_drewN ?_ _ | refine blk_drew ?_ | refine blk_alloc ?_ _)); exact BK242.out) hb); have n2_ := Aside0.mk (blk_below (g := gb243) (o := .cells #[u244000, .int .i64 x244001_1, .int .i64 x244002_1] 73 (0, 0)) (by (with_reducible repeat (first | refine blk_drewN ?_ _ | refine blk_drew ?_ | refine blk_alloc ?_ _)); exact BK243.out) hb); have n3_ := Aside0.mk (blk_below (g := gb244) (o := .cells #[.int .i64 t250, .int .i64 t251, .int .i64 t252] 26 (0, 0)) (by (with_reducible repeat (first | refine blk_drewN ?_ _ | refine blk_drew ?_ | refine blk_alloc ?_ _)); exact BK244.out) hb); have n4_ := Aside0.mk (blk_below (g := gb249) (o := .cells #[.int .i64 t247, .int .i64 t248] 113 (0, 0)) (by (with_reducible repeat (first | refine blk_drewN ?_ _ | refine blk_drew ?_ | refine blk_alloc ?_ _)); exact BK249.out) hb); have n5_ := Aside0.mk (blk_below (g := gb253) (o := .cells #[.int .u8 x254000_72, .string x254001_6, .int .i64 t250, .int .i64 t251, .int .i64 t252, .int .i64 x5_12] 35 (0, 0)) (by (with_reducible repeat (first | refine blk_drewN ?_ _ | refine blk_drew ?_ | refine blk_alloc ?_ _)); exact BK253.out) hb); have n6_ := Aside0.mk (below_step (by repeat (first | (with_reducible first | exact HB.out | apply below_alloc | apply pw_below_drewN | apply below_drew1 | refine below_set ?_ GE242.out | refine below_set ?_ GE243.out | refine below_set ?_ GE244.out | refine below_set ?_ GE249.out | refine below_set ?_ GE253.out) | exact HB.out)) hb); clear HO_244000; clear BK242; clear BK243; clear BK244; clear BK249; clear BK253; clear HB; have HO_244000 := n0_; have BK242 := n1_; have BK243 := n2_; have BK244 := n3_; have BK249 := n4_; have BK253 := n5_; have HB := n6_; clear n0_ n1_ n2_ n3_ n4_ n5_ n6_; (try clear hb); (try clear hb2); (try clear hk); (try clear hi); have hcz95_0 : w94.cell? ⟨gb253, 0, none⟩ = some (.int .u8 x254000_72) := (blk_cell BK253.out 0).trans rfl; have hcz95_1 : w94.cell? ⟨gb253, 1, none⟩ = some (.string x254001_6) := (blk_cell BK253.out 1).trans rfl; have hcz95_2 : w94.cell? ⟨gb253, 2, none⟩ = some (.int .i64 t250) := (blk_cell BK253.out 2).trans rfl; have hcz95_3 : w94.cell? ⟨gb253, 3, none⟩ = some (.int .i64 t251) := (blk_cell BK253.out 3).trans rfl; have hcz95_4 : w94.cell? ⟨gb253, 4, none⟩ = some (.int .i64 t252) := (blk_cell BK253.out 4).trans rfl; have hcz95_5 : w94.cell? ⟨gb253, 5, none⟩ = some (.int .i64 x5_12) := (blk_cell BK253.out 5).trans rfl; have hfz95_0 := blk_frozen BK253.out 0; have hfz95_1 := blk_frozen BK253.out 1; have hfz95_2 := blk_frozen BK253.out 2; have hfz95_3 := blk_frozen BK253.out 3; have hfz95_4 := blk_frozen BK253.out 4; have hfz95_5 := blk_frozen BK253.out 5))
                                                          go_roundg k6
                                                          case measure => have := HK1.out; have := HJ12.out; have := HJ14.out; have := HJ42.out; have := HJ72.out; have := HK6.out; omega
                                                          case rel => exact ⟨(cutS x254001_6 0 ((ji81) : Int).toNat), H', ⟨by have := HK1.out; have := HJ12.out; have := HJ14.out; have := HJ42.out; have := HJ72.out; have := HK6.out; omega⟩, ⟨by (with_reducible repeat (first | apply Kd.R_alloc | apply Kd.R_drewN | apply Kd.R_drew)); exact Kd.R_mono (Kd.R_far (p := ⟨gb253, 1, none⟩) (Kd.R_mono HO_244000.out (fun k_ hk => (⟨hk, hk⟩ : _ ∧ k_ ≠ gb253))) (fun _ hk => hk.2) (.string (cutS x254001_6 0 ((ji81) : Int).toNat))) (fun _ hk => hk.1)⟩, ⟨by (with_reducible repeat (first | refine blk_drewN ?_ _ | refine blk_drew ?_ | refine blk_alloc ?_ _)); refine blk_far ?_ NB242_253.out _; (with_reducible repeat (first | refine blk_drewN ?_ _ | refine blk_drew ?_ | refine blk_alloc ?_ _)); exact BK242.out⟩, ⟨by (with_reducible repeat (first | refine blk_drewN ?_ _ | refine blk_drew ?_ | refine blk_alloc ?_ _)); refine blk_far ?_ NB243_253.out _; (with_reducible repeat (first | refine blk_drewN ?_ _ | refine blk_drew ?_ | refine blk_alloc ?_ _)); exact BK243.out⟩, ⟨by (with_reducible repeat (first | refine blk_drewN ?_ _ | refine blk_drew ?_ | refine blk_alloc ?_ _)); refine blk_far ?_ NB244_253.out _; (with_reducible repeat (first | refine blk_drewN ?_ _ | refine blk_drew ?_ | refine blk_alloc ?_ _)); exact BK244.out⟩, ⟨by (with_reducible repeat (first | refine blk_drewN ?_ _ | refine blk_drew ?_ | refine blk_alloc ?_ _)); refine blk_far ?_ NB249_253.out _; (with_reducible repeat (first | refine blk_drewN ?_ _ | refine blk_drew ?_ | refine blk_alloc ?_ _)); exact BK249.out⟩, ⟨by (with_reducible repeat (first | refine blk_drewN ?_ _ | refine blk_drew ?_ | refine blk_alloc ?_ _)); refine blk_put (cs := #[.int .u8 x254000_72, .string x254001_6, .int .i64 t250, .int .i64 t251, .int .i64 t252, .int .i64 x5_12]) ?_ 1 _ rfl; (with_reducible repeat (first | refine blk_drewN ?_ _ | refine blk_drew ?_ | refine blk_alloc ?_ _)); exact BK253.out⟩, ⟨by repeat (first | (with_reducible first | exact HB.out | apply below_alloc | apply pw_below_drewN | apply below_drew1 | refine below_set ?_ GE242.out | refine below_set ?_ GE243.out | refine below_set ?_ GE244.out | refine below_set ?_ GE249.out | refine below_set ?_ GE253.out) | exact HB.out)⟩⟩
                                                        · rw [if_neg c88] at H
                                                          exact absurd H (by simp)
                                                      · replace c86 := Bool.eq_false_iff.mpr c86
                                                        subst c86
                                                        have H1 : (if x244000_1.length < 2513169434916 then (colophonref10_Find.l0 k6 a0 0 t247 (x244000_1 ++ [(⟨x254000_72, x254001_6, (⟨t250, t251, t252⟩ : S26), x5_12⟩ : S35)]) x244001_1 x244002_1 t250 t251 t252) else (none)) = some (r1, r2, r3) := by rw [if_neg (show ¬ (false = true) by decide)] at H; exact H
                                                        clear H
                                                        have H := H1
                                                        clear H1
                                                        by_cases c96 : x244000_1.length < 2513169434916
                                                        · rw [if_pos c96] at H
                                                          have LMc96 := Aside0.mk c96
                                                          clear c96
                                                          obtain ⟨y256, hy256⟩ : ∃ y_ : List (S35), y_ = (x244000_1 ++ [(⟨x254000_72, x254001_6, (⟨t250, t251, t252⟩ : S26), x5_12⟩ : S35)]) := ⟨_, rfl⟩
                                                          replace H : (colophonref10_Find.l0 k6 a0 0 t247 y256 x244001_1 x244002_1 t250 t251 t252) = some (r1, r2, r3) := by first | (rw [hy256]; with_reducible exact H) | (have H2_ := (Option.bind_some _ _).symm.trans H; rw [hy256]; with_reducible exact H2_) | (have H2_ := (Option.bind_some _ _).symm.trans H; with_reducible exact H2_) | with_reducible exact H | (rw [hy256]; exact H) | exact H
                                                          have Ny256 := Aside0.mk hy256
                                                          clear hy256
                                                          have H' := Aside0.mk H
                                                          clear H
                                                          have hnb97 := NB253_242.out
                                                          have hnc97 := NB242_253.out
                                                          have hnb98 := NB253_243.out
                                                          have hnc98 := NB243_253.out
                                                          have hnb99 := NB253_244.out
                                                          have hnc99 := NB244_253.out
                                                          have hnb100 := NB253_249.out
                                                          have hnc100 := NB249_253.out
                                                          have hcz101_0 : wr.cell? ⟨gb253, 0, none⟩ = some (.int .u8 x254000_72) := (blk_cell BK253.out 0).trans rfl
                                                          have hcz101_1 : wr.cell? ⟨gb253, 1, none⟩ = some (.string x254001_6) := (blk_cell BK253.out 1).trans rfl
                                                          have hcz101_2 : wr.cell? ⟨gb253, 2, none⟩ = some (.int .i64 t250) := (blk_cell BK253.out 2).trans rfl
                                                          have hcz101_3 : wr.cell? ⟨gb253, 3, none⟩ = some (.int .i64 t251) := (blk_cell BK253.out 3).trans rfl
                                                          have hcz101_4 : wr.cell? ⟨gb253, 4, none⟩ = some (.int .i64 t252) := (blk_cell BK253.out 4).trans rfl
                                                          have hcz101_5 : wr.cell? ⟨gb253, 5, none⟩ = some (.int .i64 x5_12) := (blk_cell BK253.out 5).trans rfl
                                                          have hfz101_0 := blk_frozen BK253.out 0
                                                          have hfz101_1 := blk_frozen BK253.out 1
                                                          have hfz101_2 := blk_frozen BK253.out 2
                                                          have hfz101_3 := blk_frozen BK253.out 3
                                                          have hfz101_4 := blk_frozen BK253.out 4
                                                          have hfz101_5 := blk_frozen BK253.out 5
                                                          have p84 : 0 ≤ ((ji81) : Int) := of_decide_eq_true (by first | (with_reducible assumption) | assumption)
                                                          have q84 : (ji81) < (x254001_6.size : Int) := of_decide_eq_true (by first | (with_reducible assumption) | assumption)
                                                          have hx84 := bt_at x254001_6 (ji81)
                                                          replace p84 := eq_true p84
                                                          replace q84 := eq_true q84
                                                          go_wp2_with (first | (go_at_call 85; (with_reducible refine (colophonref10_blank.calls (bt x254001_6 (ji81)) false _ A85.out).mono ?_); rintro e w102 ⟨rfl, hb⟩; have n0_ := Aside0.mk (Kd.R_below (by (with_reducible repeat (first | apply Kd.R_alloc | apply Kd.R_drewN | apply Kd.R_drew)); exact HO_244000.out) hb); have n1_ := Aside0.mk (blk_below (g := gb242) (o := .cells #[.slice none 0 0, .int .i64 x243001_1, .int .i64 x243002_1] 73 (0, 0)) (by (with_reducible repeat (first | refine blk_drewN ?_ _ | refine blk_drew ?_ | refine blk_alloc ?_ _)); exact BK242.out) hb); have n2_ := Aside0.mk (blk_below (g := gb243) (o := .cells #[u244000, .int .i64 x244001_1, .int .i64 x244002_1] 73 (0, 0)) (by (with_reducible repeat (first | refine blk_drewN ?_ _ | refine blk_drew ?_ | refine blk_alloc ?_ _)); exact BK243.out) hb); have n3_ := Aside0.mk (blk_below (g := gb244) (o := .cells #[.int .i64 t250, .int .i64 t251, .int .i64 t252] 26 (0, 0)) (by (with_reducible repeat (first | refine blk_drewN ?_ _ | refine blk_drew ?_ | refine blk_alloc ?_ _)); exact BK244.out) hb); have n4_ := Aside0.mk (blk_below (g := gb249) (o := .cells #[.int .i64 t247, .int .i64 t248] 113 (0, 0)) (by (with_reducible repeat (first | refine blk_drewN ?_ _ | refine blk_drew ?_ | refine blk_alloc ?_ _)); exact BK249.out) hb); have n5_ := Aside0.mk (blk_below (g := gb253) (o := .cells #[.int .u8 x254000_72, .string x254001_6, .int .i64 t250, .int .i64 t251, .int .i64 t252, .int .i64 x5_12] 35 (0, 0)) (by (with_reducible repeat (first | refine blk_drewN ?_ _ | refine blk_drew ?_ | refine blk_alloc ?_ _)); exact BK253.out) hb); have n6_ := Aside0.mk (below_step (by repeat (first | (with_reducible first | exact HB.out | apply below_alloc | apply pw_below_drewN | apply below_drew1 | refine below_set ?_ GE242.out | refine below_set ?_ GE243.out | refine below_set ?_ GE244.out | refine below_set ?_ GE249.out | refine below_set ?_ GE253.out) | exact HB.out)) hb); clear HO_244000; clear BK242; clear BK243; clear BK244; clear BK249; clear BK253; clear HB; have HO_244000 := n0_; have BK242 := n1_; have BK243 := n2_; have BK244 := n3_; have BK249 := n4_; have BK253 := n5_; have HB := n6_; clear n0_ n1_ n2_ n3_ n4_ n5_ n6_; (try clear hb); (try clear hb2); (try clear hk); (try clear hi); have hnb103 := NB243_242.out; have hnc103 := NB242_243.out; have hnb104 := NB243_244.out; have hnc104 := NB244_243.out; have hnb105 := NB243_249.out; have hnc105 := NB249_243.out; have hcz106_0 : w102.cell? ⟨gb243, 0, none⟩ = some (u244000) := (blk_cell BK243.out 0).trans rfl; have hcz106_1 : w102.cell? ⟨gb243, 1, none⟩ = some (.int .i64 x244001_1) := (blk_cell BK243.out 1).trans rfl; have hcz106_2 : w102.cell? ⟨gb243, 2, none⟩ = some (.int .i64 x244002_1) := (blk_cell BK243.out 2).trans rfl; have hfz106_0 := blk_frozen BK243.out 0; have hfz106_1 := blk_frozen BK243.out 1; have hfz106_2 := blk_frozen BK243.out 2; have hcz107_0 : w102.cell? ⟨gb253, 0, none⟩ = some (.int .u8 x254000_72) := (blk_cell BK253.out 0).trans rfl; have hcz107_1 : w102.cell? ⟨gb253, 1, none⟩ = some (.string x254001_6) := (blk_cell BK253.out 1).trans rfl; have hcz107_2 : w102.cell? ⟨gb253, 2, none⟩ = some (.int .i64 t250) := (blk_cell BK253.out 2).trans rfl; have hcz107_3 : w102.cell? ⟨gb253, 3, none⟩ = some (.int .i64 t251) := (blk_cell BK253.out 3).trans rfl; have hcz107_4 : w102.cell? ⟨gb253, 4, none⟩ = some (.int .i64 t252) := (blk_cell BK253.out 4).trans rfl; have hcz107_5 : w102.cell? ⟨gb253, 5, none⟩ = some (.int .i64 x5_12) := (blk_cell BK253.out 5).trans rfl; have hfz107_0 := blk_frozen BK253.out 0; have hfz107_1 := blk_frozen BK253.out 1; have hfz107_2 := blk_frozen BK253.out 2; have hfz107_3 := blk_frozen BK253.out 3; have hfz107_4 := blk_frozen BK253.out 4; have hfz107_5 := blk_frozen BK253.out 5) | ((with_reducible refine gate_builtin (b := .append) (xs := #[.tmp 104, .tmp 106]) rfl ?_); (try (refine gate_guard (by rfl) ?_; dsimp only)); at_builtin; refine Kd.R_append k35 (w0 := w) w.heap.size rfl (.tmp 104) (.tmp 106) 23 35 (.agg #[(.int .u8 0), (.string ⟨#[]⟩), (.int .i64 0), (.int .i64 0), (.int .i64 0), (.int .i64 0)]) 56 rfl Tryd.underlying23 info35 rfl (by decide) (by omega) u244000 x244000_1 (⟨x254000_72, x254001_6, (⟨t250, t251, t252⟩ : S26), x5_12⟩ : S35) [.int .u8 x254000_72, .string x254001_6, .int .i64 t250, .int .i64 t251, .int .i64 t252, .int .i64 x5_12] (fun k_ => k_ ≠ gb253) (fun _ => False) rfl rfl ?aP (fun _ hk => hk.elim) ?aF ?aO ?aB ?aS ?aL ?_; (case aP => exact k35_mkM _ _ _ (⟨x254000_72, x254001_6, (⟨t250, t251, t252⟩ : S26), x5_12⟩ : S35)); (case aB => exact (by repeat (first | (with_reducible first | exact HB.out | apply below_alloc | apply pw_below_drewN | apply below_drew1 | refine below_set ?_ GE242.out | refine below_set ?_ GE243.out | refine below_set ?_ GE244.out | refine below_set ?_ GE249.out | refine below_set ?_ GE253.out) | exact HB.out))); (case aF => exact (fun k_ hk => Kd.freshB (g := gb253) (o := .cells #[.int .u8 x254000_72, .string x254001_6, .int .i64 t250, .int .i64 t251, .int .i64 t252, .int .i64 x5_12] 35 (0, 0)) (by (with_reducible repeat (first | refine blk_drewN ?_ _ | refine blk_drew ?_ | refine blk_alloc ?_ _)); exact BK253.out) k_ hk)); (case aO => exact (by (with_reducible repeat (first | apply Kd.R_alloc | apply Kd.R_drewN | apply Kd.R_drew)); exact HO_244000.out)); (case aS => exact (below_size (by repeat (first | (with_reducible first | exact HB.out | apply below_alloc | apply pw_below_drewN | apply below_drew1 | refine below_set ?_ GE242.out | refine below_set ?_ GE243.out | refine below_set ?_ GE244.out | refine below_set ?_ GE249.out | refine below_set ?_ GE253.out) | exact HB.out)))); (case aL => have := LMc96.out; omega); intro v257 w108 ho hb hg hat; rw [← Ny256.out] at ho; have n0_ := Aside0.mk (blk_grown (g := gb242) (o := .cells #[.slice none 0 0, .int .i64 x243001_1, .int .i64 x243002_1] 73 (0, 0)) (by (with_reducible repeat (first | refine blk_drewN ?_ _ | refine blk_drew ?_ | refine blk_alloc ?_ _)); exact BK242.out) hg (Kd.R_ne HO_244000.out BK242.out (by decide))); have n1_ := Aside0.mk (blk_grown (g := gb243) (o := .cells #[u244000, .int .i64 x244001_1, .int .i64 x244002_1] 73 (0, 0)) (by (with_reducible repeat (first | refine blk_drewN ?_ _ | refine blk_drew ?_ | refine blk_alloc ?_ _)); exact BK243.out) hg (Kd.R_ne HO_244000.out BK243.out (by decide))); have n2_ := Aside0.mk (blk_grown (g := gb244) (o := .cells #[.int .i64 t250, .int .i64 t251, .int .i64 t252] 26 (0, 0)) (by (with_reducible repeat (first | refine blk_drewN ?_ _ | refine blk_drew ?_ | refine blk_alloc ?_ _)); exact BK244.out) hg (Kd.R_ne HO_244000.out BK244.out (by decide))); have n3_ := Aside0.mk (blk_grown (g := gb249) (o := .cells #[.int .i64 t247, .int .i64 t248] 113 (0, 0)) (by (with_reducible repeat (first | refine blk_drewN ?_ _ | refine blk_drew ?_ | refine blk_alloc ?_ _)); exact BK249.out) hg (Kd.R_ne HO_244000.out BK249.out (by decide))); have n4_ := Aside0.mk (blk_grown (g := gb253) (o := .cells #[.int .u8 x254000_72, .string x254001_6, .int .i64 t250, .int .i64 t251, .int .i64 t252, .int .i64 x5_12] 35 (0, 0)) (by (with_reducible repeat (first | refine blk_drewN ?_ _ | refine blk_drew ?_ | refine blk_alloc ?_ _)); exact BK253.out) hg (Kd.R_away HO_244000.out (fun _ hk => hk))); have n5_ := Aside0.mk (hb); have n6_ := Aside0.mk (ho); clear BK242; clear BK243; clear BK244; clear BK249; clear BK253; clear HB; clear HO_244000; have BK242 := n0_; have BK243 := n1_; have BK244 := n2_; have BK249 := n3_; have BK253 := n4_; have HB := n5_; have HO258 := n6_; clear n0_ n1_ n2_ n3_ n4_ n5_ n6_; clear ho hb hg hat; obtain ⟨Ao109, co109, eo109⟩ := Kd.R_slice HO258.out; subst eo109; have hcz110_0 : w108.cell? ⟨gb243, 0, none⟩ = some (u244000) := (blk_cell BK243.out 0).trans rfl; have hcz110_1 : w108.cell? ⟨gb243, 1, none⟩ = some (.int .i64 x244001_1) := (blk_cell BK243.out 1).trans rfl; have hcz110_2 : w108.cell? ⟨gb243, 2, none⟩ = some (.int .i64 x244002_1) := (blk_cell BK243.out 2).trans rfl; have hfz110_0 := blk_frozen BK243.out 0; have hfz110_1 := blk_frozen BK243.out 1; have hfz110_2 := blk_frozen BK243.out 2; have hnb111 := NB249_242.out; have hnc111 := NB242_249.out; have hnb112 := NB249_244.out; have hnc112 := NB244_249.out; have hcz113_0 : w108.cell? ⟨gb249, 0, none⟩ = some (.int .i64 t247) := (blk_cell BK249.out 0).trans rfl; have hcz113_1 : w108.cell? ⟨gb249, 1, none⟩ = some (.int .i64 t248) := (blk_cell BK249.out 1).trans rfl; have hfz113_0 := blk_frozen BK249.out 0; have hfz113_1 := blk_frozen BK249.out 1))
                                                          go_roundg k6
                                                          case measure => have := HK1.out; have := HJ12.out; have := HJ14.out; have := HJ42.out; have := HJ72.out; have := HK6.out; omega
                                                          case rel => exact ⟨(0), (t247), (x243001_1), (x243002_1), (y256), (x244001_1), (x244002_1), (t250), (t251), (t252), (.slice Ao109 y256.length co109), (by first | rfl | (simp; done) | (simp [*]; done)), (by first | rfl | (simp; done) | (simp [*]; done)), H', ⟨by have := HK1.out; have := HJ12.out; have := HJ14.out; have := HJ42.out; have := HJ72.out; have := HK6.out; omega⟩, ⟨by (with_reducible repeat (first | apply Kd.R_alloc | apply Kd.R_drewN | apply Kd.R_drew)); exact Kd.R_mono (Kd.R_far (p := ⟨gb243, 0, none⟩) (Kd.R_types HO258.out BK243.out (by decide)) (fun _ hk => hk.2) (.slice Ao109 y256.length co109)) (fun _ hk => trivial)⟩, ⟨by (with_reducible repeat (first | refine blk_drewN ?_ _ | refine blk_drew ?_ | refine blk_alloc ?_ _)); refine blk_far ?_ NB242_243.out _; (with_reducible repeat (first | refine blk_drewN ?_ _ | refine blk_drew ?_ | refine blk_alloc ?_ _)); exact BK242.out⟩, ⟨by (with_reducible repeat (first | refine blk_drewN ?_ _ | refine blk_drew ?_ | refine blk_alloc ?_ _)); refine blk_put (cs := #[u244000, .int .i64 x244001_1, .int .i64 x244002_1]) ?_ 0 _ rfl; (with_reducible repeat (first | refine blk_drewN ?_ _ | refine blk_drew ?_ | refine blk_alloc ?_ _)); exact BK243.out⟩, ⟨by (with_reducible repeat (first | refine blk_drewN ?_ _ | refine blk_drew ?_ | refine blk_alloc ?_ _)); refine blk_far ?_ NB244_243.out _; (with_reducible repeat (first | refine blk_drewN ?_ _ | refine blk_drew ?_ | refine blk_alloc ?_ _)); exact BK244.out⟩, ⟨by repeat (first | (with_reducible first | exact HB.out | apply below_alloc | apply pw_below_drewN | apply below_drew1 | refine below_set ?_ GE242.out | refine below_set ?_ GE243.out | refine below_set ?_ GE244.out | refine below_set ?_ GE249.out | refine below_set ?_ GE253.out) | exact HB.out)⟩⟩
                                                        · rw [if_neg c96] at H
                                                          exact absurd H (by simp)
                                                    · rw [if_neg c83] at H
                                                      exact absurd H (by simp)
                                                  · rw [if_neg c82] at H
                                                    exact absurd H (by simp)
                                                · rw [if_neg c80] at H
                                                  have c80b0 : (t246 == 7) = false := beq_eq_false_iff_ne.mpr c80
                                                  have c80b1 : (t246 != 7) = true := bne_iff_ne.mpr c80
                                                  by_cases c114 : x244000_1.length < 2513169434916
                                                  · rw [if_pos c114] at H
                                                    have LMc114 := Aside0.mk c114
                                                    clear c114
                                                    obtain ⟨y259, hy259⟩ : ∃ y_ : List (S35), y_ = (x244000_1 ++ [(⟨x254000_72, x254001_6, (⟨t250, t251, t252⟩ : S26), x5_12⟩ : S35)]) := ⟨_, rfl⟩
                                                    replace H : (colophonref10_Find.l0 k6 a0 0 t247 y259 x244001_1 x244002_1 t250 t251 t252) = some (r1, r2, r3) := by first | (rw [hy259]; with_reducible exact H) | (have H2_ := (Option.bind_some _ _).symm.trans H; rw [hy259]; with_reducible exact H2_) | (have H2_ := (Option.bind_some _ _).symm.trans H; with_reducible exact H2_) | with_reducible exact H | (rw [hy259]; exact H) | exact H
                                                    have Ny259 := Aside0.mk hy259
                                                    clear hy259
                                                    have H' := Aside0.mk H
                                                    clear H
                                                    have hnb115 := NB243_242.out
                                                    have hnc115 := NB242_243.out
                                                    have hnb116 := NB243_244.out
                                                    have hnc116 := NB244_243.out
                                                    have hnb117 := NB243_249.out
                                                    have hnc117 := NB249_243.out
                                                    have hnb118 := NB243_253.out
                                                    have hnc118 := NB253_243.out
                                                    have hcz119_0 : wr.cell? ⟨gb243, 0, none⟩ = some (u244000) := (blk_cell BK243.out 0).trans rfl
                                                    have hcz119_1 : wr.cell? ⟨gb243, 1, none⟩ = some (.int .i64 x244001_1) := (blk_cell BK243.out 1).trans rfl
                                                    have hcz119_2 : wr.cell? ⟨gb243, 2, none⟩ = some (.int .i64 x244002_1) := (blk_cell BK243.out 2).trans rfl
                                                    have hfz119_0 := blk_frozen BK243.out 0
                                                    have hfz119_1 := blk_frozen BK243.out 1
                                                    have hfz119_2 := blk_frozen BK243.out 2
                                                    have hnb120 := NB253_242.out
                                                    have hnc120 := NB242_253.out
                                                    have hnb121 := NB253_244.out
                                                    have hnc121 := NB244_253.out
                                                    have hnb122 := NB253_249.out
                                                    have hnc122 := NB249_253.out
                                                    have hcz123_0 : wr.cell? ⟨gb253, 0, none⟩ = some (.int .u8 x254000_72) := (blk_cell BK253.out 0).trans rfl
                                                    have hcz123_1 : wr.cell? ⟨gb253, 1, none⟩ = some (.string x254001_6) := (blk_cell BK253.out 1).trans rfl
                                                    have hcz123_2 : wr.cell? ⟨gb253, 2, none⟩ = some (.int .i64 t250) := (blk_cell BK253.out 2).trans rfl
                                                    have hcz123_3 : wr.cell? ⟨gb253, 3, none⟩ = some (.int .i64 t251) := (blk_cell BK253.out 3).trans rfl
                                                    have hcz123_4 : wr.cell? ⟨gb253, 4, none⟩ = some (.int .i64 t252) := (blk_cell BK253.out 4).trans rfl
                                                    have hcz123_5 : wr.cell? ⟨gb253, 5, none⟩ = some (.int .i64 x5_12) := (blk_cell BK253.out 5).trans rfl
                                                    have hfz123_0 := blk_frozen BK253.out 0
                                                    have hfz123_1 := blk_frozen BK253.out 1
                                                    have hfz123_2 := blk_frozen BK253.out 2
                                                    have hfz123_3 := blk_frozen BK253.out 3
                                                    have hfz123_4 := blk_frozen BK253.out 4
                                                    have hfz123_5 := blk_frozen BK253.out 5
                                                    go_wp2_with (first | ((with_reducible refine gate_builtin (b := .append) (xs := #[.tmp 104, .tmp 106]) rfl ?_); (try (refine gate_guard (by rfl) ?_; dsimp only)); at_builtin; refine Kd.R_append k35 (w0 := w) w.heap.size rfl (.tmp 104) (.tmp 106) 23 35 (.agg #[(.int .u8 0), (.string ⟨#[]⟩), (.int .i64 0), (.int .i64 0), (.int .i64 0), (.int .i64 0)]) 56 rfl Tryd.underlying23 info35 rfl (by decide) (by omega) u244000 x244000_1 (⟨x254000_72, x254001_6, (⟨t250, t251, t252⟩ : S26), x5_12⟩ : S35) [.int .u8 x254000_72, .string x254001_6, .int .i64 t250, .int .i64 t251, .int .i64 t252, .int .i64 x5_12] (fun k_ => k_ ≠ gb253) (fun _ => False) rfl rfl ?aP (fun _ hk => hk.elim) ?aF ?aO ?aB ?aS ?aL ?_; (case aP => exact k35_mkM _ _ _ (⟨x254000_72, x254001_6, (⟨t250, t251, t252⟩ : S26), x5_12⟩ : S35)); (case aB => exact (by repeat (first | (with_reducible first | exact HB.out | apply below_alloc | apply pw_below_drewN | apply below_drew1 | refine below_set ?_ GE242.out | refine below_set ?_ GE243.out | refine below_set ?_ GE244.out | refine below_set ?_ GE249.out | refine below_set ?_ GE253.out) | exact HB.out))); (case aF => exact (fun k_ hk => Kd.freshB (g := gb253) (o := .cells #[.int .u8 x254000_72, .string x254001_6, .int .i64 t250, .int .i64 t251, .int .i64 t252, .int .i64 x5_12] 35 (0, 0)) (by (with_reducible repeat (first | refine blk_drewN ?_ _ | refine blk_drew ?_ | refine blk_alloc ?_ _)); exact BK253.out) k_ hk)); (case aO => exact (by (with_reducible repeat (first | apply Kd.R_alloc | apply Kd.R_drewN | apply Kd.R_drew)); exact HO_244000.out)); (case aS => exact (below_size (by repeat (first | (with_reducible first | exact HB.out | apply below_alloc | apply pw_below_drewN | apply below_drew1 | refine below_set ?_ GE242.out | refine below_set ?_ GE243.out | refine below_set ?_ GE244.out | refine below_set ?_ GE249.out | refine below_set ?_ GE253.out) | exact HB.out)))); (case aL => have := LMc114.out; omega); intro v260 w124 ho hb hg hat; rw [← Ny259.out] at ho; have n0_ := Aside0.mk (blk_grown (g := gb242) (o := .cells #[.slice none 0 0, .int .i64 x243001_1, .int .i64 x243002_1] 73 (0, 0)) (by (with_reducible repeat (first | refine blk_drewN ?_ _ | refine blk_drew ?_ | refine blk_alloc ?_ _)); exact BK242.out) hg (Kd.R_ne HO_244000.out BK242.out (by decide))); have n1_ := Aside0.mk (blk_grown (g := gb243) (o := .cells #[u244000, .int .i64 x244001_1, .int .i64 x244002_1] 73 (0, 0)) (by (with_reducible repeat (first | refine blk_drewN ?_ _ | refine blk_drew ?_ | refine blk_alloc ?_ _)); exact BK243.out) hg (Kd.R_ne HO_244000.out BK243.out (by decide))); have n2_ := Aside0.mk (blk_grown (g := gb244) (o := .cells #[.int .i64 t250, .int .i64 t251, .int .i64 t252] 26 (0, 0)) (by (with_reducible repeat (first | refine blk_drewN ?_ _ | refine blk_drew ?_ | refine blk_alloc ?_ _)); exact BK244.out) hg (Kd.R_ne HO_244000.out BK244.out (by decide))); have n3_ := Aside0.mk (blk_grown (g := gb249) (o := .cells #[.int .i64 t247, .int .i64 t248] 113 (0, 0)) (by (with_reducible repeat (first | refine blk_drewN ?_ _ | refine blk_drew ?_ | refine blk_alloc ?_ _)); exact BK249.out) hg (Kd.R_ne HO_244000.out BK249.out (by decide))); have n4_ := Aside0.mk (blk_grown (g := gb253) (o := .cells #[.int .u8 x254000_72, .string x254001_6, .int .i64 t250, .int .i64 t251, .int .i64 t252, .int .i64 x5_12] 35 (0, 0)) (by (with_reducible repeat (first | refine blk_drewN ?_ _ | refine blk_drew ?_ | refine blk_alloc ?_ _)); exact BK253.out) hg (Kd.R_away HO_244000.out (fun _ hk => hk))); have n5_ := Aside0.mk (hb); have n6_ := Aside0.mk (ho); clear BK242; clear BK243; clear BK244; clear BK249; clear BK253; clear HB; clear HO_244000; have BK242 := n0_; have BK243 := n1_; have BK244 := n2_; have BK249 := n3_; have BK253 := n4_; have HB := n5_; have HO261 := n6_; clear n0_ n1_ n2_ n3_ n4_ n5_ n6_; clear ho hb hg hat; obtain ⟨Ao125, co125, eo125⟩ := Kd.R_slice HO261.out; subst eo125; have hcz126_0 : w124.cell? ⟨gb243, 0, none⟩ = some (u244000) := (blk_cell BK243.out 0).trans rfl; have hcz126_1 : w124.cell? ⟨gb243, 1, none⟩ = some (.int .i64 x244001_1) := (blk_cell BK243.out 1).trans rfl; have hcz126_2 : w124.cell? ⟨gb243, 2, none⟩ = some (.int .i64 x244002_1) := (blk_cell BK243.out 2).trans rfl; have hfz126_0 := blk_frozen BK243.out 0; have hfz126_1 := blk_frozen BK243.out 1; have hfz126_2 := blk_frozen BK243.out 2; have hnb127 := NB249_242.out; have hnc127 := NB242_249.out; have hnb128 := NB249_244.out; have hnc128 := NB244_249.out; have hcz129_0 : w124.cell? ⟨gb249, 0, none⟩ = some (.int .i64 t247) := (blk_cell BK249.out 0).trans rfl; have hcz129_1 : w124.cell? ⟨gb249, 1, none⟩ = some (.int .i64 t248) := (blk_cell BK249.out 1).trans rfl; have hfz129_0 := blk_frozen BK249.out 0; have hfz129_1 := blk_frozen BK249.out 1))
                                                    go_roundg k6
                                                    case measure => have := HK1.out; have := HJ12.out; have := HJ14.out; have := HJ42.out; have := HJ72.out; have := HK6.out; omega
                                                    case rel => exact ⟨(0), (t247), (x243001_1), (x243002_1), (y259), (x244001_1), (x244002_1), (t250), (t251), (t252), (.slice Ao125 y259.length co125), (by first | rfl | (simp; done) | (simp [*]; done)), (by first | rfl | (simp; done) | (simp [*]; done)), H', ⟨by have := HK1.out; have := HJ12.out; have := HJ14.out; have := HJ42.out; have := HJ72.out; have := HK6.out; omega⟩, ⟨by (with_reducible repeat (first | apply Kd.R_alloc | apply Kd.R_drewN | apply Kd.R_drew)); exact Kd.R_mono (Kd.R_far (p := ⟨gb243, 0, none⟩) (Kd.R_types HO261.out BK243.out (by decide)) (fun _ hk => hk.2) (.slice Ao125 y259.length co125)) (fun _ hk => trivial)⟩, ⟨by (with_reducible repeat (first | refine blk_drewN ?_ _ | refine blk_drew ?_ | refine blk_alloc ?_ _)); refine blk_far ?_ NB242_243.out _; (with_reducible repeat (first | refine blk_drewN ?_ _ | refine blk_drew ?_ | refine blk_alloc ?_ _)); exact BK242.out⟩, ⟨by (with_reducible repeat (first | refine blk_drewN ?_ _ | refine blk_drew ?_ | refine blk_alloc ?_ _)); refine blk_put (cs := #[u244000, .int .i64 x244001_1, .int .i64 x244002_1]) ?_ 0 _ rfl; (with_reducible repeat (first | refine blk_drewN ?_ _ | refine blk_drew ?_ | refine blk_alloc ?_ _)); exact BK243.out⟩, ⟨by (with_reducible repeat (first | refine blk_drewN ?_ _ | refine blk_drew ?_ | refine blk_alloc ?_ _)); refine blk_far ?_ NB244_243.out _; (with_reducible repeat (first | refine blk_drewN ?_ _ | refine blk_drew ?_ | refine blk_alloc ?_ _)); exact BK244.out⟩, ⟨by repeat (first | (with_reducible first | exact HB.out | apply below_alloc | apply pw_below_drewN | apply below_drew1 | refine below_set ?_ GE242.out | refine below_set ?_ GE243.out | refine below_set ?_ GE244.out | refine below_set ?_ GE249.out | refine below_set ?_ GE253.out) | exact HB.out)⟩⟩
                                                  · rw [if_neg c114] at H
                                                    exact absurd H (by simp)
                                  · rw [if_neg c41] at H
                                    exact absurd H (by simp)
                                · rw [if_neg c40] at H
                                  exact absurd H (by simp)
                              · rw [if_neg c39] at H
                                exact absurd H (by simp)
                            · rw [if_neg c37] at H
                              exact absurd H (by simp)
                          · rw [if_neg c36] at H
                            exact absurd H (by simp)
                        · rw [if_neg c35] at H
                          exact absurd H (by simp)
                      · rw [if_neg c34] at H
                        have c34b0 : (t248 == 0) = false := beq_eq_false_iff_ne.mpr c34
                        have c34b1 : (t248 != 0) = true := bne_iff_ne.mpr c34
                        simp only [Option.some.injEq, Prod.mk.injEq] at H
                        obtain ⟨rfl, rfl, rfl⟩ := H
                        go_wp2_with (first | ((with_reducible refine gate_callee (f := 86) rfl ?_); refine goesL_ (some 37) rfl rfl Tryd.func86 (by kernel_rfl) rfl #[.string a0, .int .i64 x6_1] rfl (by (try simp only [List.map_toArray, List.map_cons, List.map_nil]); first | done | rfl | (simp only [List.length_drop, List.length_take]; rfl)) ?_; (with_reducible refine (colophonref10_begins.calls kj14 a0 x6_1 t246 _ A24.out).mono ?_); rintro e w130 ⟨rfl, hb⟩; refine ⟨_, rfl, ?_⟩; have n0_ := Aside0.mk (Kd.R_below (by (with_reducible repeat (first | apply Kd.R_alloc | apply Kd.R_drewN | apply Kd.R_drew)); exact HO_244000.out) hb); have n1_ := Aside0.mk (blk_below (g := gb242) (o := .cells #[.slice none 0 0, .int .i64 x243001_1, .int .i64 x243002_1] 73 (0, 0)) (by (with_reducible repeat (first | refine blk_drewN ?_ _ | refine blk_drew ?_ | refine blk_alloc ?_ _)); exact BK242.out) hb); have n2_ := Aside0.mk (blk_below (g := gb243) (o := .cells #[u244000, .int .i64 x244001_1, .int .i64 x244002_1] 73 (0, 0)) (by (with_reducible repeat (first | refine blk_drewN ?_ _ | refine blk_drew ?_ | refine blk_alloc ?_ _)); exact BK243.out) hb); have n3_ := Aside0.mk (blk_below (g := gb244) (o := .cells #[.int .i64 x245000_1, .int .i64 x245001_1, .int .i64 x245002_1] 26 (0, 0)) (by (with_reducible repeat (first | refine blk_drewN ?_ _ | refine blk_drew ?_ | refine blk_alloc ?_ _)); exact BK244.out) hb); have n4_ := Aside0.mk (below_step (by repeat (first | (with_reducible first | exact HB.out | apply below_alloc | apply pw_below_drewN | apply below_drew1 | refine below_set ?_ GE242.out | refine below_set ?_ GE243.out | refine below_set ?_ GE244.out) | exact HB.out)) hb); clear HO_244000; clear BK242; clear BK243; clear BK244; clear HB; have HO_244000 := n0_; have BK242 := n1_; have BK243 := n2_; have BK244 := n3_; have HB := n4_; clear n0_ n1_ n2_ n3_ n4_; (try clear hb); (try clear hb2); (try clear hk); (try clear hi)) | ((with_reducible refine gate_callee (f := 87) rfl ?_); refine goesL_ (some 47) rfl rfl Tryd.func87 (by kernel_rfl) rfl #[.string a0, .int .i64 x6_1, .int .u8 t246] rfl (by (try simp only [List.map_toArray, List.map_cons, List.map_nil]); first | done | rfl | (simp only [List.length_drop, List.length_take]; rfl)) ?_; (with_reducible refine (colophonref10_ends.calls kj14 a0 x6_1 t246 t247 t248 _ A33.out).mono ?_); rintro e w131 ⟨rfl, hb⟩; refine ⟨_, rfl, ?_⟩; have n0_ := Aside0.mk (Kd.R_below (by (with_reducible repeat (first | apply Kd.R_alloc | apply Kd.R_drewN | apply Kd.R_drew)); exact HO_244000.out) hb); have n1_ := Aside0.mk (blk_below (g := gb242) (o := .cells #[.slice none 0 0, .int .i64 x243001_1, .int .i64 x243002_1] 73 (0, 0)) (by (with_reducible repeat (first | refine blk_drewN ?_ _ | refine blk_drew ?_ | refine blk_alloc ?_ _)); exact BK242.out) hb); have n2_ := Aside0.mk (blk_below (g := gb243) (o := .cells #[u244000, .int .i64 x244001_1, .int .i64 x244002_1] 73 (0, 0)) (by (with_reducible repeat (first | refine blk_drewN ?_ _ | refine blk_drew ?_ | refine blk_alloc ?_ _)); exact BK243.out) hb); have n3_ := Aside0.mk (blk_below (g := gb244) (o := .cells #[.int .i64 x245000_1, .int .i64 x245001_1, .int .i64 x245002_1] 26 (0, 0)) (by (with_reducible repeat (first | refine blk_drewN ?_ _ | refine blk_drew ?_ | refine blk_alloc ?_ _)); exact BK244.out) hb); have n4_ := Aside0.mk (below_step (by repeat (first | (with_reducible first | exact HB.out | apply below_alloc | apply pw_below_drewN | apply below_drew1 | refine below_set ?_ GE242.out | refine below_set ?_ GE243.out | refine below_set ?_ GE244.out) | exact HB.out)) hb); clear HO_244000; clear BK242; clear BK243; clear BK244; clear HB; have HO_244000 := n0_; have BK242 := n1_; have BK243 := n2_; have BK244 := n3_; have HB := n4_; clear n0_ n1_ n2_ n3_ n4_; (try clear hb); (try clear hb2); (try clear hk); (try clear hi)) | ((with_reducible refine gate_dst (N := 8) rfl ?_); (try (refine gate_guard (by rfl) ?_; dsimp only)); refine box_event ?hg (N := 8) ?hd (cs := #[.int .i64 0, .int .i64 0]) (t := 113) ?hr ?_; (case hd => rfl); (case hg => rfl); (case hr => first | (go_simp; done) | (go_simp; rfl)); intro gb249 hg w132 hbox hb; have n0_ := Aside0.mk (Kd.R_below (by (with_reducible repeat (first | apply Kd.R_alloc | apply Kd.R_drewN | apply Kd.R_drew)); exact HO_244000.out) hb); have n1_ := Aside0.mk (blk_below (g := gb242) (o := .cells #[.slice none 0 0, .int .i64 x243001_1, .int .i64 x243002_1] 73 (0, 0)) (by (with_reducible repeat (first | refine blk_drewN ?_ _ | refine blk_drew ?_ | refine blk_alloc ?_ _)); exact BK242.out) hb); have n2_ := Aside0.mk (blk_below (g := gb243) (o := .cells #[u244000, .int .i64 x244001_1, .int .i64 x244002_1] 73 (0, 0)) (by (with_reducible repeat (first | refine blk_drewN ?_ _ | refine blk_drew ?_ | refine blk_alloc ?_ _)); exact BK243.out) hb); have n3_ := Aside0.mk (blk_below (g := gb244) (o := .cells #[.int .i64 x245000_1, .int .i64 x245001_1, .int .i64 x245002_1] 26 (0, 0)) (by (with_reducible repeat (first | refine blk_drewN ?_ _ | refine blk_drew ?_ | refine blk_alloc ?_ _)); exact BK244.out) hb); have n4_ := Aside0.mk (below_step (by repeat (first | (with_reducible first | exact HB.out | apply below_alloc | apply pw_below_drewN | apply below_drew1 | refine below_set ?_ GE242.out | refine below_set ?_ GE243.out | refine below_set ?_ GE244.out) | exact HB.out)) hb); have n5_ := Aside0.mk (hbox); have n6_ := Aside0.mk ((by rw [hg]; exact (below_size (by repeat (first | (with_reducible first | exact HB.out | apply below_alloc | apply pw_below_drewN | apply below_drew1 | refine below_set ?_ GE242.out | refine below_set ?_ GE243.out | refine below_set ?_ GE244.out) | exact HB.out))) : w.heap.size ≤ gb249)); have n7_ := Aside0.mk ((by rw [hg]; exact (below_size (by repeat (first | (with_reducible first | exact HB.out | apply below_alloc | apply pw_below_drewN | apply below_drew1 | refine below_set ?_ GE242.out | refine below_set ?_ GE243.out | refine below_set ?_ GE244.out) | exact HB.out))) : w.heap.size ≤ gb249)); have n8_ := Aside0.mk ((by rw [hg]; exact Nat.ne_of_lt (blk_lt (g := gb242) (o := .cells #[.slice none 0 0, .int .i64 x243001_1, .int .i64 x243002_1] 73 (0, 0)) (by (with_reducible repeat (first | refine blk_drewN ?_ _ | refine blk_drew ?_ | refine blk_alloc ?_ _)); exact BK242.out)) : gb242 ≠ gb249)); have n9_ := Aside0.mk ((by rw [hg]; exact Nat.ne_of_gt (blk_lt (g := gb242) (o := .cells #[.slice none 0 0, .int .i64 x243001_1, .int .i64 x243002_1] 73 (0, 0)) (by (with_reducible repeat (first | refine blk_drewN ?_ _ | refine blk_drew ?_ | refine blk_alloc ?_ _)); exact BK242.out)) : gb249 ≠ gb242)); have n10_ := Aside0.mk ((by rw [hg]; exact Nat.ne_of_lt (blk_lt (g := gb243) (o := .cells #[u244000, .int .i64 x244001_1, .int .i64 x244002_1] 73 (0, 0)) (by (with_reducible repeat (first | refine blk_drewN ?_ _ | refine blk_drew ?_ | refine blk_alloc ?_ _)); exact BK243.out)) : gb243 ≠ gb249)); have n11_ := Aside0.mk ((by rw [hg]; exact Nat.ne_of_gt (blk_lt (g := gb243) (o := .cells #[u244000, .int .i64 x244001_1, .int .i64 x244002_1] 73 (0, 0)) (by (with_reducible repeat (first | refine blk_drewN ?_ _ | refine blk_drew ?_ | refine blk_alloc ?_ _)); exact BK243.out)) : gb249 ≠ gb243)); have n12_ := Aside0.mk ((by rw [hg]; exact Nat.ne_of_lt (blk_lt (g := gb244) (o := .cells #[.int .i64 x245000_1, .int .i64 x245001_1, .int .i64 x245002_1] 26 (0, 0)) (by (with_reducible repeat (first | refine blk_drewN ?_ _ | refine blk_drew ?_ | refine blk_alloc ?_ _)); exact BK244.out)) : gb244 ≠ gb249)); have n13_ := Aside0.mk ((by rw [hg]; exact Nat.ne_of_gt (blk_lt (g := gb244) (o := .cells #[.int .i64 x245000_1, .int .i64 x245001_1, .int .i64 x245002_1] 26 (0, 0)) (by (with_reducible repeat (first | refine blk_drewN ?_ _ | refine blk_drew ?_ | refine blk_alloc ?_ _)); exact BK244.out)) : gb249 ≠ gb244)); clear HO_244000; clear BK242; clear BK243; clear BK244; clear HB; have HO_244000 := n0_; have BK242 := n1_; have BK243 := n2_; have BK244 := n3_; have HB := n4_; have BK249 := n5_; have GW249 := n6_; have GE249 := n7_; have NB242_249 := n8_; have NB249_242 := n9_; have NB243_249 := n10_; have NB249_243 := n11_; have NB244_249 := n12_; have NB249_244 := n13_; clear n0_ n1_ n2_ n3_ n4_ n5_ n6_ n7_ n8_ n9_ n10_ n11_ n12_ n13_; clear hb hbox hg; have hnb133 := NB249_242.out; have hnc133 := NB242_249.out; have hnb134 := NB249_243.out; have hnc134 := NB243_249.out; have hnb135 := NB249_244.out; have hnc135 := NB244_249.out; have hcz136_0 : w132.cell? ⟨gb249, 0, none⟩ = some (.int .i64 0) := (blk_cell BK249.out 0).trans rfl; have hcz136_1 : w132.cell? ⟨gb249, 1, none⟩ = some (.int .i64 0) := (blk_cell BK249.out 1).trans rfl; have hfz136_0 := blk_frozen BK249.out 0; have hfz136_1 := blk_frozen BK249.out 1; have hnb137 := NB243_242.out; have hnc137 := NB242_243.out; have hnb138 := NB243_244.out; have hnc138 := NB244_243.out; have hcz139_0 : w132.cell? ⟨gb243, 0, none⟩ = some (u244000) := (blk_cell BK243.out 0).trans rfl; have hcz139_1 : w132.cell? ⟨gb243, 1, none⟩ = some (.int .i64 x244001_1) := (blk_cell BK243.out 1).trans rfl; have hcz139_2 : w132.cell? ⟨gb243, 2, none⟩ = some (.int .i64 x244002_1) := (blk_cell BK243.out 2).trans rfl; have hfz139_0 := blk_frozen BK243.out 0; have hfz139_1 := blk_frozen BK243.out 1; have hfz139_2 := blk_frozen BK243.out 2; obtain ⟨Ao140, co140, eo140⟩ := Kd.R_slice HO_244000.out; subst eo140; have hnb141 := NB242_244.out; have hnc141 := NB244_242.out; have hcz142_0 : w132.cell? ⟨gb242, 0, none⟩ = some (.slice none 0 0) := (blk_cell BK242.out 0).trans rfl; have hcz142_1 : w132.cell? ⟨gb242, 1, none⟩ = some (.int .i64 x243001_1) := (blk_cell BK242.out 1).trans rfl; have hcz142_2 : w132.cell? ⟨gb242, 2, none⟩ = some (.int .i64 x243002_1) := (blk_cell BK242.out 2).trans rfl; have hfz142_0 := blk_frozen BK242.out 0; have hfz142_1 := blk_frozen BK242.out 1; have hfz142_2 := blk_frozen BK242.out 2))
                        refine bodyPost_ret (results_cell_row rfl _ _ gb242 73 #[.slice Ao140 x244000_1.length co140, .int .i64 t248, .int .i64 t247] (0, 0) _ rfl (by (with_reducible repeat (first | refine blk_drewN ?_ _ | refine blk_drew ?_ | refine blk_alloc ?_ _)); refine blk_put (cs := #[.slice Ao140 x244000_1.length co140, .int .i64 t248, .int .i64 x243002_1]) ?_ 2 _ rfl; (with_reducible repeat (first | refine blk_drewN ?_ _ | refine blk_drew ?_ | refine blk_alloc ?_ _)); refine blk_put (cs := #[.slice Ao140 x244000_1.length co140, .int .i64 x243001_1, .int .i64 x243002_1]) ?_ 1 _ rfl; (with_reducible repeat (first | refine blk_drewN ?_ _ | refine blk_drew ?_ | refine blk_alloc ?_ _)); refine blk_put (cs := #[.slice none 0 0, .int .i64 x243001_1, .int .i64 x243002_1]) ?_ 0 _ rfl; (with_reducible repeat (first | refine blk_drewN ?_ _ | refine blk_drew ?_ | refine blk_alloc ?_ _)); refine blk_far ?_ NB242_243.out _; (with_reducible repeat (first | refine blk_drewN ?_ _ | refine blk_drew ?_ | refine blk_alloc ?_ _)); refine blk_far ?_ NB242_243.out _; (with_reducible repeat (first | refine blk_drewN ?_ _ | refine blk_drew ?_ | refine blk_alloc ?_ _)); refine blk_far ?_ NB242_249.out _; (with_reducible repeat (first | refine blk_drewN ?_ _ | refine blk_drew ?_ | refine blk_alloc ?_ _)); refine blk_far ?_ NB242_249.out _; (with_reducible repeat (first | refine blk_drewN ?_ _ | refine blk_drew ?_ | refine blk_alloc ?_ _)); exact BK242.out) Tryd.underlying73 rfl (by kernel_rfl)) rfl ?_
                        exact ⟨_, by first | rfl | (simp [errW_none, errW_some] <;> rfl) | (simp [*, errW_none, errW_some] <;> rfl), by (with_reducible repeat (first | apply Kd.R_alloc | apply Kd.R_drewN | apply Kd.R_drew)); exact Kd.R_mono (Kd.R_far (p := ⟨gb242, 2, none⟩) (Kd.R_far (p := ⟨gb242, 1, none⟩) (Kd.R_far (p := ⟨gb242, 0, none⟩) (Kd.R_far (p := ⟨gb243, 2, none⟩) (Kd.R_far (p := ⟨gb243, 1, none⟩) (Kd.R_far (p := ⟨gb249, 1, none⟩) (Kd.R_far (p := ⟨gb249, 0, none⟩) (Kd.R_types (Kd.R_types (Kd.R_types HO_244000.out BK249.out (by decide)) BK243.out (by decide)) BK242.out (by decide)) (fun _ hk => hk.1.1.2) (.int .i64 t247)) (fun _ hk => hk.1.1.2) (.int .i64 t248)) (fun _ hk => hk.1.2) (.int .i64 t248)) (fun _ hk => hk.1.2) (.int .i64 t247)) (fun _ hk => hk.2) (.slice Ao140 x244000_1.length co140)) (fun _ hk => hk.2) (.int .i64 t248)) (fun _ hk => hk.2) (.int .i64 t247)) (fun _ hk => trivial), by repeat (first | (with_reducible first | exact HB.out | apply below_alloc | apply pw_below_drewN | apply below_drew1 | refine below_set ?_ GE242.out | refine below_set ?_ GE243.out | refine below_set ?_ GE244.out | refine below_set ?_ GE249.out) | exact HB.out)⟩
        · rw [if_neg c11] at H
          exact absurd H (by simp)
      · rw [if_neg c10] at H
        have c10b0 : decide (x6_1 < (a0.size : Int)) = false := decide_eq_false c10
        clear c10
        simp only [Option.some.injEq, Prod.mk.injEq] at H
        obtain ⟨rfl, rfl, rfl⟩ := H
        have hnb143 := NB243_242.out
        have hnc143 := NB242_243.out
        have hnb144 := NB243_244.out
        have hnc144 := NB244_243.out
        have hcz145_0 : wr.cell? ⟨gb243, 0, none⟩ = some (u244000) := (blk_cell BK243.out 0).trans rfl
        have hcz145_1 : wr.cell? ⟨gb243, 1, none⟩ = some (.int .i64 x244001_1) := (blk_cell BK243.out 1).trans rfl
        have hcz145_2 : wr.cell? ⟨gb243, 2, none⟩ = some (.int .i64 x244002_1) := (blk_cell BK243.out 2).trans rfl
        have hfz145_0 := blk_frozen BK243.out 0
        have hfz145_1 := blk_frozen BK243.out 1
        have hfz145_2 := blk_frozen BK243.out 2
        obtain ⟨Ao146, co146, eo146⟩ := Kd.R_slice HO_244000.out
        subst eo146
        have hnb147 := NB242_244.out
        have hnc147 := NB244_242.out
        have hcz148_0 : wr.cell? ⟨gb242, 0, none⟩ = some (.slice none 0 0) := (blk_cell BK242.out 0).trans rfl
        have hcz148_1 : wr.cell? ⟨gb242, 1, none⟩ = some (.int .i64 x243001_1) := (blk_cell BK242.out 1).trans rfl
        have hcz148_2 : wr.cell? ⟨gb242, 2, none⟩ = some (.int .i64 x243002_1) := (blk_cell BK242.out 2).trans rfl
        have hfz148_0 := blk_frozen BK242.out 0
        have hfz148_1 := blk_frozen BK242.out 1
        have hfz148_2 := blk_frozen BK242.out 2
        go_wp2
        refine bodyPost_ret (results_cell_row rfl _ _ gb242 73 #[.slice Ao146 x244000_1.length co146, .int .i64 x244001_1, .int .i64 x244002_1] (0, 0) _ rfl (by (with_reducible repeat (first | refine blk_drewN ?_ _ | refine blk_drew ?_ | refine blk_alloc ?_ _)); refine blk_put (cs := #[.slice Ao146 x244000_1.length co146, .int .i64 x244001_1, .int .i64 x243002_1]) ?_ 2 _ rfl; (with_reducible repeat (first | refine blk_drewN ?_ _ | refine blk_drew ?_ | refine blk_alloc ?_ _)); refine blk_put (cs := #[.slice Ao146 x244000_1.length co146, .int .i64 x243001_1, .int .i64 x243002_1]) ?_ 1 _ rfl; (with_reducible repeat (first | refine blk_drewN ?_ _ | refine blk_drew ?_ | refine blk_alloc ?_ _)); refine blk_put (cs := #[.slice none 0 0, .int .i64 x243001_1, .int .i64 x243002_1]) ?_ 0 _ rfl; (with_reducible repeat (first | refine blk_drewN ?_ _ | refine blk_drew ?_ | refine blk_alloc ?_ _)); exact BK242.out) Tryd.underlying73 rfl (by kernel_rfl)) rfl ?_
        exact ⟨_, by first | rfl | (simp [errW_none, errW_some] <;> rfl) | (simp [*, errW_none, errW_some] <;> rfl), by (with_reducible repeat (first | apply Kd.R_alloc | apply Kd.R_drewN | apply Kd.R_drew)); exact Kd.R_mono (Kd.R_far (p := ⟨gb242, 2, none⟩) (Kd.R_far (p := ⟨gb242, 1, none⟩) (Kd.R_far (p := ⟨gb242, 0, none⟩) (Kd.R_types HO_244000.out BK242.out (by decide)) (fun _ hk => hk.2) (.slice Ao146 x244000_1.length co146)) (fun _ hk => hk.2) (.int .i64 x244001_1)) (fun _ hk => hk.2) (.int .i64 x244002_1)) (fun _ hk => trivial), by repeat (first | (with_reducible first | exact HB.out | apply below_alloc | apply pw_below_drewN | apply below_drew1 | refine below_set ?_ GE242.out | refine below_set ?_ GE243.out | refine below_set ?_ GE244.out) | exact HB.out)⟩

end Go.Proofs.YtdphhmigbbgjmaaDoor.PScan
