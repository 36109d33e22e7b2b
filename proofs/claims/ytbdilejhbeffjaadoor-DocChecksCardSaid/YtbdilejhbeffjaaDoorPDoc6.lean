/- Printed by a program of this session (wip/xprint.py) over the kit's print, with contracts of this session's own: doc, its reference, its laws. -/
import Derived.Test.YtbdilejhbeffjaaDoorPDoc0
import Derived.Test.YtbdilejhbeffjaaDoorDocY
import Derived.Test.YtbdilejhbeffjaaDoorPDoc3
import Derived.Test.YtbdilejhbeffjaaDoorPDoc4
import Derived.Test.YtbdilejhbeffjaaDoorPDoc5
namespace Go.Proofs.YtbdilejhbeffjaaDoor.PDoc
open Go.RowKit Go.Proofs.YtbdilejhbeffjaaDoorW.PrintWords Go.Proofs.YtbdilejhbeffjaaDoorW.PrintLast Go.Proofs.YtbdilejhbeffjaaDoorW.PrintMore
attribute [local go_sem] max2_int min2_int max_two min_two max_three min_three max_four min_four   -- for this text's walks alone
set_option linter.unusedVariables false
set_option linter.unusedSimpArgs false
attribute [local go_sem ↓] cutS_in

/-! ### colophonref07_Line: function 47 -/
def colophonref07_Line.f (k : Nat) (a0_0 : Int) (a0_1 : ByteArray) (a0_2 : Int) (a0_3 : Int) (a0_4 : Bool) : Option (ByteArray) := if a0_0 = 1 then ((colophonref07_escaped.f k a0_1).bind fun t199 => (if 5 + t199.size ≤ 9223372036854775807 then (some ((⟨#[116, 101, 120, 116, 32]⟩ : ByteArray) ++ t199)) else (none))) else (if a0_0 = 2 then (some (⟨#[98, 108, 97, 110, 107]⟩ : ByteArray)) else (if a0_0 = 3 then ((colophonref07_Ten.f k a0_2).bind fun t200 => (if 6 + t200.size ≤ 9223372036854775807 then (some ((⟨#[98, 114, 101, 97, 107, 32]⟩ : ByteArray) ++ t200)) else (none))) else (if a0_0 = 4 then (some (⟨#[104, 97, 114, 100]⟩ : ByteArray)) else (if a0_0 = 5 then (some (⟨#[101, 109, 112, 116, 121]⟩ : ByteArray)) else (if a0_0 = 6 then (if a0_4 = true then ((colophonref07_Ten.f k a0_3).bind fun t201 => (if 6 + t201.size ≤ 9223372036854775807 then (if ((⟨#[98, 101, 103, 105, 110, 32]⟩ : ByteArray) ++ t201).size + 5 ≤ 9223372036854775807 then (some (((⟨#[98, 101, 103, 105, 110, 32]⟩ : ByteArray) ++ t201) ++ (⟨#[32, 101, 118, 101, 110]⟩ : ByteArray))) else (none)) else (none))) else ((colophonref07_Ten.f k a0_3).bind fun t202 => (if 6 + t202.size ≤ 9223372036854775807 then (some ((⟨#[98, 101, 103, 105, 110, 32]⟩ : ByteArray) ++ t202)) else (none)))) else (some (⟨#[101, 110, 100]⟩ : ByteArray)))))))
theorem colophonref07_Line.mono : ∀ a0 a1 a2 a3 a4 k, LeO (colophonref07_Line.f k a0 a1 a2 a3 a4) (colophonref07_Line.f (k + 1) a0 a1 a2 a3 a4) := by
  intro a0 a1 a2 a3 a4 k
  unfold colophonref07_Line.f
  repeat' first
      | (with_reducible exact colophonref07_Ten.mono _ _)
      | (with_reducible exact colophonref07_escaped.mono _ _)
      | (with_reducible exact LeO.refl _)
      | (with_reducible exact LeO.none _)
      | (with_reducible refine LeO.ite ?_ ?_)
      | (with_reducible refine LeO.bind ?_ (fun _ => ?_))
      | exact colophonref07_Ten.mono _ _
      | exact colophonref07_escaped.mono _ _
      | exact LeO.none _
      | refine LeO.ite ?_ ?_
      | refine LeO.bind ?_ (fun _ => ?_)
set_option maxHeartbeats 8000000 in
set_option maxRecDepth 100000 in
theorem colophonref07_Line.calls (k : Nat) (a0_0 : Int) (a0_1 : ByteArray) (a0_2 : Int) (a0_3 : Int) (a0_4 : Bool) (r : ByteArray) (w : World) (h : colophonref07_Line.f k a0_0 a0_1 a0_2 a0_3 a0_4 = some r) :
    Calls Tryd.prog 47 #[.agg #[.int .u8 a0_0, .string a0_1, .int .i64 a0_2, .int .i64 a0_3, .bool a0_4]] w fun e w' => e = .returned (.string r) ∧ Below w.heap.size w w' := by
  have hu33 := Tryd.underlying33
  have HB := Aside0.mk (Below.refl w.heap.size w)
  have H : (if a0_0 = 1 then ((colophonref07_escaped.f k a0_1).bind fun t199 => (if 5 + t199.size ≤ 9223372036854775807 then (some ((⟨#[116, 101, 120, 116, 32]⟩ : ByteArray) ++ t199)) else (none))) else (if a0_0 = 2 then (some (⟨#[98, 108, 97, 110, 107]⟩ : ByteArray)) else (if a0_0 = 3 then ((colophonref07_Ten.f k a0_2).bind fun t200 => (if 6 + t200.size ≤ 9223372036854775807 then (some ((⟨#[98, 114, 101, 97, 107, 32]⟩ : ByteArray) ++ t200)) else (none))) else (if a0_0 = 4 then (some (⟨#[104, 97, 114, 100]⟩ : ByteArray)) else (if a0_0 = 5 then (some (⟨#[101, 109, 112, 116, 121]⟩ : ByteArray)) else (if a0_0 = 6 then (if a0_4 = true then ((colophonref07_Ten.f k a0_3).bind fun t201 => (if 6 + t201.size ≤ 9223372036854775807 then (if ((⟨#[98, 101, 103, 105, 110, 32]⟩ : ByteArray) ++ t201).size + 5 ≤ 9223372036854775807 then (some (((⟨#[98, 101, 103, 105, 110, 32]⟩ : ByteArray) ++ t201) ++ (⟨#[32, 101, 118, 101, 110]⟩ : ByteArray))) else (none)) else (none))) else ((colophonref07_Ten.f k a0_3).bind fun t202 => (if 6 + t202.size ≤ 9223372036854775807 then (some ((⟨#[98, 101, 103, 105, 110, 32]⟩ : ByteArray) ++ t202)) else (none)))) else (some (⟨#[101, 110, 100]⟩ : ByteArray)))))))) = some r := h
  clear h
  by_cases c2 : a0_0 = 1
  · rw [if_pos c2] at H
    have c2b0 : (a0_0 == 1) = true := beq_iff_eq.mpr c2
    have c2b1 : (a0_0 != 1) = false := bne_eq_false_iff_eq.mpr c2
    clear c2
    replace H := Option.bind_eq_some_iff.mp H
    obtain ⟨t199, A30, H⟩ := H
    replace H : (if 5 + t199.size ≤ 9223372036854775807 then (some ((⟨#[116, 101, 120, 116, 32]⟩ : ByteArray) ++ t199)) else (none)) = some r := H
    have A3 := Aside0.mk A30
    clear A30
    by_cases c4 : 5 + t199.size ≤ 9223372036854775807
    · rw [if_pos c4] at H
      have c4b0 := eq_true c4
      have c4b1 : decide (5 + t199.size ≤ 9223372036854775807) = true := decide_eq_true c4
      try have c4b2 : (9223372036854775807 < 5 + t199.size) = False := eq_false (Nat.not_lt.2 c4)
      obtain rfl := Option.some.inj H
      go_enter Tryd.func47, Tryd.ntmps47
      go_wp2_with (first | ((with_reducible refine gate_dst (N := 1) rfl ?_); refine box_event ?hg (N := 1) ?hd (cs := #[.int .u8 a0_0, .string a0_1, .int .i64 a0_2, .int .i64 a0_3, .bool a0_4]) (t := 33) ?hr ?_; (case hd => rfl); (case hg => rfl); (case hr => first | (go_simp; done) | (go_simp; rfl)); intro gb198 hg w5 hbox hb; have n0_ := Aside0.mk (below_step (by repeat (first | (with_reducible first | exact HB.out | apply below_alloc | apply pw_below_drewN | apply below_drew1) | exact HB.out)) hb); have n1_ := Aside0.mk (hbox); have n2_ := Aside0.mk ((by rw [hg]; exact (below_size (by repeat (first | (with_reducible first | exact HB.out | apply below_alloc | apply pw_below_drewN | apply below_drew1) | exact HB.out))) : w.heap.size ≤ gb198)); have n3_ := Aside0.mk ((by rw [hg]; exact (below_size (by repeat (first | (with_reducible first | exact HB.out | apply below_alloc | apply pw_below_drewN | apply below_drew1) | exact HB.out))) : w.heap.size ≤ gb198)); clear HB; have HB := n0_; have BK198 := n1_; have GW198 := n2_; have GE198 := n3_; clear n0_ n1_ n2_ n3_; clear hb hbox hg; have hcz6_0 : w5.cell? ⟨gb198, 0, none⟩ = some (.int .u8 a0_0) := (blk_cell BK198.out 0).trans rfl; have hcz6_1 : w5.cell? ⟨gb198, 1, none⟩ = some (.string a0_1) := (blk_cell BK198.out 1).trans rfl; have hcz6_2 : w5.cell? ⟨gb198, 2, none⟩ = some (.int .i64 a0_2) := (blk_cell BK198.out 2).trans rfl; have hcz6_3 : w5.cell? ⟨gb198, 3, none⟩ = some (.int .i64 a0_3) := (blk_cell BK198.out 3).trans rfl; have hcz6_4 : w5.cell? ⟨gb198, 4, none⟩ = some (.bool a0_4) := (blk_cell BK198.out 4).trans rfl; have hfz6_0 := blk_frozen BK198.out 0; have hfz6_1 := blk_frozen BK198.out 1; have hfz6_2 := blk_frozen BK198.out 2; have hfz6_3 := blk_frozen BK198.out 3; have hfz6_4 := blk_frozen BK198.out 4) | ((with_reducible refine gate_callee (f := 73) rfl ?_); refine goesL_ (some 9) rfl rfl Tryd.func73 (by kernel_rfl) rfl #[.string a0_1] rfl (by (try simp only [List.map_toArray, List.map_cons, List.map_nil]); first | done | rfl | (simp only [List.length_drop, List.length_take]; rfl)) ?_; (with_reducible refine (colophonref07_escaped.calls k a0_1 t199 _ A3.out).mono ?_); rintro e w7 ⟨rfl, hb⟩; refine ⟨_, rfl, ?_⟩; have n0_ := Aside0.mk (blk_below (g := gb198) (o := .cells #[.int .u8 a0_0, .string a0_1, .int .i64 a0_2, .int .i64 a0_3, .bool a0_4] 33 (0, 0)) (by (with_reducible repeat (first | refine blk_drewN ?_ _ | refine blk_drew ?_ | refine blk_alloc ?_ _)); exact BK198.out) hb); have n1_ := Aside0.mk (below_step (by repeat (first | (with_reducible first | exact HB.out | apply below_alloc | apply pw_below_drewN | apply below_drew1 | refine below_set ?_ GE198.out) | exact HB.out)) hb); clear BK198; clear HB; have BK198 := n0_; have HB := n1_; clear n0_ n1_; (try clear hb); (try clear hb2); (try clear hk); (try clear hi)))
      go_ret
      exact ⟨by first | rfl | (simp [errW_none, errW_some] <;> rfl) | (simp [*, errW_none, errW_some] <;> rfl), by repeat (first | (with_reducible first | exact HB.out | apply below_alloc | apply pw_below_drewN | apply below_drew1 | refine below_set ?_ GE198.out) | exact HB.out)⟩
    · rw [if_neg c4] at H
      exact absurd H (by simp)
  · rw [if_neg c2] at H
    have c2b0 : (a0_0 == 1) = false := beq_eq_false_iff_ne.mpr c2
    have c2b1 : (a0_0 != 1) = true := bne_iff_ne.mpr c2
    by_cases c8 : a0_0 = 2
    · rw [if_pos c8] at H
      have c8b0 : (a0_0 == 2) = true := beq_iff_eq.mpr c8
      have c8b1 : (a0_0 != 2) = false := bne_eq_false_iff_eq.mpr c8
      clear c8
      obtain rfl := Option.some.inj H
      go_enter Tryd.func47, Tryd.ntmps47
      go_wp2_with (first | ((with_reducible refine gate_dst (N := 1) rfl ?_); refine box_event ?hg (N := 1) ?hd (cs := #[.int .u8 a0_0, .string a0_1, .int .i64 a0_2, .int .i64 a0_3, .bool a0_4]) (t := 33) ?hr ?_; (case hd => rfl); (case hg => rfl); (case hr => first | (go_simp; done) | (go_simp; rfl)); intro gb198 hg w9 hbox hb; have n0_ := Aside0.mk (below_step (by repeat (first | (with_reducible first | exact HB.out | apply below_alloc | apply pw_below_drewN | apply below_drew1) | exact HB.out)) hb); have n1_ := Aside0.mk (hbox); have n2_ := Aside0.mk ((by rw [hg]; exact (below_size (by repeat (first | (with_reducible first | exact HB.out | apply below_alloc | apply pw_below_drewN | apply below_drew1) | exact HB.out))) : w.heap.size ≤ gb198)); have n3_ := Aside0.mk ((by rw [hg]; exact (below_size (by repeat (first | (with_reducible first | exact HB.out | apply below_alloc | apply pw_below_drewN | apply below_drew1) | exact HB.out))) : w.heap.size ≤ gb198)); clear HB; have HB := n0_; have BK198 := n1_; have GW198 := n2_; have GE198 := n3_; clear n0_ n1_ n2_ n3_; clear hb hbox hg; have hcz10_0 : w9.cell? ⟨gb198, 0, none⟩ = some (.int .u8 a0_0) := (blk_cell BK198.out 0).trans rfl; have hcz10_1 : w9.cell? ⟨gb198, 1, none⟩ = some (.string a0_1) := (blk_cell BK198.out 1).trans rfl; have hcz10_2 : w9.cell? ⟨gb198, 2, none⟩ = some (.int .i64 a0_2) := (blk_cell BK198.out 2).trans rfl; have hcz10_3 : w9.cell? ⟨gb198, 3, none⟩ = some (.int .i64 a0_3) := (blk_cell BK198.out 3).trans rfl; have hcz10_4 : w9.cell? ⟨gb198, 4, none⟩ = some (.bool a0_4) := (blk_cell BK198.out 4).trans rfl; have hfz10_0 := blk_frozen BK198.out 0; have hfz10_1 := blk_frozen BK198.out 1; have hfz10_2 := blk_frozen BK198.out 2; have hfz10_3 := blk_frozen BK198.out 3; have hfz10_4 := blk_frozen BK198.out 4))
      go_ret
      exact ⟨by first | rfl | (simp [errW_none, errW_some] <;> rfl) | (simp [*, errW_none, errW_some] <;> rfl), by repeat (first | (with_reducible first | exact HB.out | apply below_alloc | apply pw_below_drewN | apply below_drew1 | refine below_set ?_ GE198.out) | exact HB.out)⟩
    · rw [if_neg c8] at H
      have c8b0 : (a0_0 == 2) = false := beq_eq_false_iff_ne.mpr c8
      have c8b1 : (a0_0 != 2) = true := bne_iff_ne.mpr c8
      by_cases c11 : a0_0 = 3
      · rw [if_pos c11] at H
        have c11b0 : (a0_0 == 3) = true := beq_iff_eq.mpr c11
        have c11b1 : (a0_0 != 3) = false := bne_eq_false_iff_eq.mpr c11
        clear c11
        replace H := Option.bind_eq_some_iff.mp H
        obtain ⟨t200, A120, H⟩ := H
        replace H : (if 6 + t200.size ≤ 9223372036854775807 then (some ((⟨#[98, 114, 101, 97, 107, 32]⟩ : ByteArray) ++ t200)) else (none)) = some r := H
        have A12 := Aside0.mk A120
        clear A120
        by_cases c13 : 6 + t200.size ≤ 9223372036854775807
        · rw [if_pos c13] at H
          have c13b0 := eq_true c13
          have c13b1 : decide (6 + t200.size ≤ 9223372036854775807) = true := decide_eq_true c13
          try have c13b2 : (9223372036854775807 < 6 + t200.size) = False := eq_false (Nat.not_lt.2 c13)
          obtain rfl := Option.some.inj H
          go_enter Tryd.func47, Tryd.ntmps47
          go_wp2_with (first | ((with_reducible refine gate_dst (N := 1) rfl ?_); refine box_event ?hg (N := 1) ?hd (cs := #[.int .u8 a0_0, .string a0_1, .int .i64 a0_2, .int .i64 a0_3, .bool a0_4]) (t := 33) ?hr ?_; (case hd => rfl); (case hg => rfl); (case hr => first | (go_simp; done) | (go_simp; rfl)); intro gb198 hg w14 hbox hb; have n0_ := Aside0.mk (below_step (by repeat (first | (with_reducible first | exact HB.out | apply below_alloc | apply pw_below_drewN | apply below_drew1) | exact HB.out)) hb); have n1_ := Aside0.mk (hbox); have n2_ := Aside0.mk ((by rw [hg]; exact (below_size (by repeat (first | (with_reducible first | exact HB.out | apply below_alloc | apply pw_below_drewN | apply below_drew1) | exact HB.out))) : w.heap.size ≤ gb198)); have n3_ := Aside0.mk ((by rw [hg]; exact (below_size (by repeat (first | (with_reducible first | exact HB.out | apply below_alloc | apply pw_below_drewN | apply below_drew1) | exact HB.out))) : w.heap.size ≤ gb198)); clear HB; have HB := n0_; have BK198 := n1_; have GW198 := n2_; have GE198 := n3_; clear n0_ n1_ n2_ n3_; clear hb hbox hg; have hcz15_0 : w14.cell? ⟨gb198, 0, none⟩ = some (.int .u8 a0_0) := (blk_cell BK198.out 0).trans rfl; have hcz15_1 : w14.cell? ⟨gb198, 1, none⟩ = some (.string a0_1) := (blk_cell BK198.out 1).trans rfl; have hcz15_2 : w14.cell? ⟨gb198, 2, none⟩ = some (.int .i64 a0_2) := (blk_cell BK198.out 2).trans rfl; have hcz15_3 : w14.cell? ⟨gb198, 3, none⟩ = some (.int .i64 a0_3) := (blk_cell BK198.out 3).trans rfl; have hcz15_4 : w14.cell? ⟨gb198, 4, none⟩ = some (.bool a0_4) := (blk_cell BK198.out 4).trans rfl; have hfz15_0 := blk_frozen BK198.out 0; have hfz15_1 := blk_frozen BK198.out 1; have hfz15_2 := blk_frozen BK198.out 2; have hfz15_3 := blk_frozen BK198.out 3; have hfz15_4 := blk_frozen BK198.out 4) | ((with_reducible refine gate_callee (f := 74) rfl ?_); refine goesL_ (some 17) rfl rfl Tryd.func74 (by kernel_rfl) rfl #[.int .i64 a0_2] rfl (by (try simp only [List.map_toArray, List.map_cons, List.map_nil]); first | done | rfl | (simp only [List.length_drop, List.length_take]; rfl)) ?_; (with_reducible refine (colophonref07_Ten.calls k a0_2 t200 _ A12.out).mono ?_); rintro e w16 ⟨rfl, hb⟩; refine ⟨_, rfl, ?_⟩; have n0_ := Aside0.mk (blk_below (g := gb198) (o := .cells #[.int .u8 a0_0, .string a0_1, .int .i64 a0_2, .int .i64 a0_3, .bool a0_4] 33 (0, 0)) (by (with_reducible repeat (first | refine blk_drewN ?_ _ | refine blk_drew ?_ | refine blk_alloc ?_ _)); exact BK198.out) hb); have n1_ := Aside0.mk (below_step (by repeat (first | (with_reducible first | exact HB.out | apply below_alloc | apply pw_below_drewN | apply below_drew1 | refine below_set ?_ GE198.out) | exact HB.out)) hb); clear BK198; clear HB; have BK198 := n0_; have HB := n1_; clear n0_ n1_; (try clear hb); (try clear hb2); (try clear hk); (try clear hi)))
          go_ret
          exact ⟨by first | rfl | (simp [errW_none, errW_some] <;> rfl) | (simp [*, errW_none, errW_some] <;> rfl), by repeat (first | (with_reducible first | exact HB.out | apply below_alloc | apply pw_below_drewN | apply below_drew1 | refine below_set ?_ GE198.out) | exact HB.out)⟩
        · rw [if_neg c13] at H
          exact absurd H (by simp)
      · rw [if_neg c11] at H
        have c11b0 : (a0_0 == 3) = false := beq_eq_false_iff_ne.mpr c11
        have c11b1 : (a0_0 != 3) = true := bne_iff_ne.mpr c11
        by_cases c17 : a0_0 = 4
        · rw [if_pos c17] at H
          have c17b0 : (a0_0 == 4) = true := beq_iff_eq.mpr c17
          have c17b1 : (a0_0 != 4) = false := bne_eq_false_iff_eq.mpr c17
          clear c17
          obtain rfl := Option.some.inj H
          go_enter Tryd.func47, Tryd.ntmps47
          go_wp2_with (first | ((with_reducible refine gate_dst (N := 1) rfl ?_); refine box_event ?hg (N := 1) ?hd (cs := #[.int .u8 a0_0, .string a0_1, .int .i64 a0_2, .int .i64 a0_3, .bool a0_4]) (t := 33) ?hr ?_; (case hd => rfl); (case hg => rfl); (case hr => first | (go_simp; done) | (go_simp; rfl)); intro gb198 hg w18 hbox hb; have n0_ := Aside0.mk (below_step (by repeat (first | (with_reducible first | exact HB.out | apply below_alloc | apply pw_below_drewN | apply below_drew1) | exact HB.out)) hb); have n1_ := Aside0.mk (hbox); have n2_ := Aside0.mk ((by rw [hg]; exact (below_size (by repeat (first | (with_reducible first | exact HB.out | apply below_alloc | apply pw_below_drewN | apply below_drew1) | exact HB.out))) : w.heap.size ≤ gb198)); have n3_ := Aside0.mk ((by rw [hg]; exact (below_size (by repeat (first | (with_reducible first | exact HB.out | apply below_alloc | apply pw_below_drewN | apply below_drew1) | exact HB.out))) : w.heap.size ≤ gb198)); clear HB; have HB := n0_; have BK198 := n1_; have GW198 := n2_; have GE198 := n3_; clear n0_ n1_ n2_ n3_; clear hb hbox hg; have hcz19_0 : w18.cell? ⟨gb198, 0, none⟩ = some (.int .u8 a0_0) := (blk_cell BK198.out 0).trans rfl; have hcz19_1 : w18.cell? ⟨gb198, 1, none⟩ = some (.string a0_1) := (blk_cell BK198.out 1).trans rfl; have hcz19_2 : w18.cell? ⟨gb198, 2, none⟩ = some (.int .i64 a0_2) := (blk_cell BK198.out 2).trans rfl; have hcz19_3 : w18.cell? ⟨gb198, 3, none⟩ = some (.int .i64 a0_3) := (blk_cell BK198.out 3).trans rfl; have hcz19_4 : w18.cell? ⟨gb198, 4, none⟩ = some (.bool a0_4) := (blk_cell BK198.out 4).trans rfl; have hfz19_0 := blk_frozen BK198.out 0; have hfz19_1 := blk_frozen BK198.out 1; have hfz19_2 := blk_frozen BK198.out 2; have hfz19_3 := blk_frozen BK198.out 3; have hfz19_4 := blk_frozen BK198.out 4))
          go_ret
          exact ⟨by first | rfl | (simp [errW_none, errW_some] <;> rfl) | (simp [*, errW_none, errW_some] <;> rfl), by repeat (first | (with_reducible first | exact HB.out | apply below_alloc | apply pw_below_drewN | apply below_drew1 | refine below_set ?_ GE198.out) | exact HB.out)⟩
        · rw [if_neg c17] at H
          have c17b0 : (a0_0 == 4) = false := beq_eq_false_iff_ne.mpr c17
          have c17b1 : (a0_0 != 4) = true := bne_iff_ne.mpr c17
          by_cases c20 : a0_0 = 5
          · rw [if_pos c20] at H
            have c20b0 : (a0_0 == 5) = true := beq_iff_eq.mpr c20
            have c20b1 : (a0_0 != 5) = false := bne_eq_false_iff_eq.mpr c20
            clear c20
            obtain rfl := Option.some.inj H
            go_enter Tryd.func47, Tryd.ntmps47
            go_wp2_with (first | ((with_reducible refine gate_dst (N := 1) rfl ?_); refine box_event ?hg (N := 1) ?hd (cs := #[.int .u8 a0_0, .string a0_1, .int .i64 a0_2, .int .i64 a0_3, .bool a0_4]) (t := 33) ?hr ?_; (case hd => rfl); (case hg => rfl); (case hr => first | (go_simp; done) | (go_simp; rfl)); intro gb198 hg w21 hbox hb; have n0_ := Aside0.mk (below_step (by repeat (first | (with_reducible first | exact HB.out | apply below_alloc | apply pw_below_drewN | apply below_drew1) | exact HB.out)) hb); have n1_ := Aside0.mk (hbox); have n2_ := Aside0.mk ((by rw [hg]; exact (below_size (by repeat (first | (with_reducible first | exact HB.out | apply below_alloc | apply pw_below_drewN | apply below_drew1) | exact HB.out))) : w.heap.size ≤ gb198)); have n3_ := Aside0.mk ((by rw [hg]; exact (below_size (by repeat (first | (with_reducible first | exact HB.out | apply below_alloc | apply pw_below_drewN | apply below_drew1) | exact HB.out))) : w.heap.size ≤ gb198)); clear HB; have HB := n0_; have BK198 := n1_; have GW198 := n2_; have GE198 := n3_; clear n0_ n1_ n2_ n3_; clear hb hbox hg; have hcz22_0 : w21.cell? ⟨gb198, 0, none⟩ = some (.int .u8 a0_0) := (blk_cell BK198.out 0).trans rfl; have hcz22_1 : w21.cell? ⟨gb198, 1, none⟩ = some (.string a0_1) := (blk_cell BK198.out 1).trans rfl; have hcz22_2 : w21.cell? ⟨gb198, 2, none⟩ = some (.int .i64 a0_2) := (blk_cell BK198.out 2).trans rfl; have hcz22_3 : w21.cell? ⟨gb198, 3, none⟩ = some (.int .i64 a0_3) := (blk_cell BK198.out 3).trans rfl; have hcz22_4 : w21.cell? ⟨gb198, 4, none⟩ = some (.bool a0_4) := (blk_cell BK198.out 4).trans rfl; have hfz22_0 := blk_frozen BK198.out 0; have hfz22_1 := blk_frozen BK198.out 1; have hfz22_2 := blk_frozen BK198.out 2; have hfz22_3 := blk_frozen BK198.out 3; have hfz22_4 := blk_frozen BK198.out 4))
            go_ret
            exact ⟨by first | rfl | (simp [errW_none, errW_some] <;> rfl) | (simp [*, errW_none, errW_some] <;> rfl), by repeat (first | (with_reducible first | exact HB.out | apply below_alloc | apply pw_below_drewN | apply below_drew1 | refine below_set ?_ GE198.out) | exact HB.out)⟩
          · rw [if_neg c20] at H
            have c20b0 : (a0_0 == 5) = false := beq_eq_false_iff_ne.mpr c20
            have c20b1 : (a0_0 != 5) = true := bne_iff_ne.mpr c20
            by_cases c23 : a0_0 = 6
            · rw [if_pos c23] at H
              have c23b0 : (a0_0 == 6) = true := beq_iff_eq.mpr c23
              have c23b1 : (a0_0 != 6) = false := bne_eq_false_iff_eq.mpr c23
              clear c23
              by_cases c24 : a0_4 = true
              · subst c24
                have H1 : ((colophonref07_Ten.f k a0_3).bind fun t201 => (if 6 + t201.size ≤ 9223372036854775807 then (if ((⟨#[98, 101, 103, 105, 110, 32]⟩ : ByteArray) ++ t201).size + 5 ≤ 9223372036854775807 then (some (((⟨#[98, 101, 103, 105, 110, 32]⟩ : ByteArray) ++ t201) ++ (⟨#[32, 101, 118, 101, 110]⟩ : ByteArray))) else (none)) else (none))) = some r := by rw [if_pos rfl] at H; exact H
                clear H
                have H := H1
                clear H1
                replace H := Option.bind_eq_some_iff.mp H
                obtain ⟨t201, A250, H⟩ := H
                replace H : (if 6 + t201.size ≤ 9223372036854775807 then (if ((⟨#[98, 101, 103, 105, 110, 32]⟩ : ByteArray) ++ t201).size + 5 ≤ 9223372036854775807 then (some (((⟨#[98, 101, 103, 105, 110, 32]⟩ : ByteArray) ++ t201) ++ (⟨#[32, 101, 118, 101, 110]⟩ : ByteArray))) else (none)) else (none)) = some r := H
                have A25 := Aside0.mk A250
                clear A250
                by_cases c26 : 6 + t201.size ≤ 9223372036854775807
                · rw [if_pos c26] at H
                  have c26b0 := eq_true c26
                  have c26b1 : decide (6 + t201.size ≤ 9223372036854775807) = true := decide_eq_true c26
                  try have c26b2 : (9223372036854775807 < 6 + t201.size) = False := eq_false (Nat.not_lt.2 c26)
                  by_cases c27 : ((⟨#[98, 101, 103, 105, 110, 32]⟩ : ByteArray) ++ t201).size + 5 ≤ 9223372036854775807
                  · rw [if_pos c27] at H
                    have c27b0 := eq_true c27
                    have c27b1 : decide (((⟨#[98, 101, 103, 105, 110, 32]⟩ : ByteArray) ++ t201).size + 5 ≤ 9223372036854775807) = true := decide_eq_true c27
                    try have c27b2 : (9223372036854775807 < ((⟨#[98, 101, 103, 105, 110, 32]⟩ : ByteArray) ++ t201).size + 5) = False := eq_false (Nat.not_lt.2 c27)
                    try have c27b3 : (9223372036854775807 < 6 + t201.size + 5) = False := eq_false (by have h_ := c27; rw [ByteArray.size_append] at h_; have h2_ : (⟨#[98, 101, 103, 105, 110, 32]⟩ : ByteArray).size = 6 := rfl; omega)
                    try have c27b4 : (6 + t201.size + 5 ≤ 9223372036854775807) = True := eq_true (by have h_ := c27; rw [ByteArray.size_append] at h_; have h2_ : (⟨#[98, 101, 103, 105, 110, 32]⟩ : ByteArray).size = 6 := rfl; omega)
                    obtain rfl := Option.some.inj H
                    go_enter Tryd.func47, Tryd.ntmps47
                    go_wp2_with (first | ((with_reducible refine gate_dst (N := 1) rfl ?_); refine box_event ?hg (N := 1) ?hd (cs := #[.int .u8 a0_0, .string a0_1, .int .i64 a0_2, .int .i64 a0_3, .bool true]) (t := 33) ?hr ?_; (case hd => rfl); (case hg => rfl); (case hr => first | (go_simp; done) | (go_simp; rfl)); intro gb198 hg w28 hbox hb; have n0_ := Aside0.mk (below_step (by repeat (first | (with_reducible first | exact HB.out | apply below_alloc | apply pw_below_drewN | apply below_drew1) | exact HB.out)) hb); have n1_ := Aside0.mk (hbox); have n2_ := Aside0.mk ((by rw [hg]; exact (below_size (by repeat (first | (with_reducible first | exact HB.out | apply below_alloc | apply pw_below_drewN | apply below_drew1) | exact HB.out))) : w.heap.size ≤ gb198)); have n3_ := Aside0.mk ((by rw [hg]; exact (below_size (by repeat (first | (with_reducible first | exact HB.out | apply below_alloc | apply pw_below_drewN | apply below_drew1) | exact HB.out))) : w.heap.size ≤ gb198)); clear HB; have HB := n0_; have BK198 := n1_; have GW198 := n2_; have GE198 := n3_; clear n0_ n1_ n2_ n3_; clear hb hbox hg; have hcz29_0 : w28.cell? ⟨gb198, 0, none⟩ = some (.int .u8 a0_0) := (blk_cell BK198.out 0).trans rfl; have hcz29_1 : w28.cell? ⟨gb198, 1, none⟩ = some (.string a0_1) := (blk_cell BK198.out 1).trans rfl; have hcz29_2 : w28.cell? ⟨gb198, 2, none⟩ = some (.int .i64 a0_2) := (blk_cell BK198.out 2).trans rfl; have hcz29_3 : w28.cell? ⟨gb198, 3, none⟩ = some (.int .i64 a0_3) := (blk_cell BK198.out 3).trans rfl; have hcz29_4 : w28.cell? ⟨gb198, 4, none⟩ = some (.bool true) := (blk_cell BK198.out 4).trans rfl; have hfz29_0 := blk_frozen BK198.out 0; have hfz29_1 := blk_frozen BK198.out 1; have hfz29_2 := blk_frozen BK198.out 2; have hfz29_3 := blk_frozen BK198.out 3; have hfz29_4 := blk_frozen BK198.out 4) | ((with_reducible refine gate_callee (f := 74) rfl ?_); refine goesL_ (some 29) rfl rfl Tryd.func74 (by kernel_rfl) rfl #[.int .i64 a0_3] rfl (by (try simp only [List.map_toArray, List.map_cons, List.map_nil]); first | done | rfl | (simp only [List.length_drop, List.length_take]; rfl)) ?_; (with_reducible refine (colophonref07_Ten.calls k a0_3 t201 _ A25.out).mono ?_); rintro e w30 ⟨rfl, hb⟩; refine ⟨_, rfl, ?_⟩; have n0_ := Aside0.mk (blk_below (g := gb198) (o := .cells #[.int .u8 a0_0, .string a0_1, .int .i64 a0_2, .int .i64 a0_3, .bool true] 33 (0, 0)) (by (with_reducible repeat (first | refine blk_drewN ?_ _ | refine blk_drew ?_ | refine blk_alloc ?_ _)); exact BK198.out) hb); have n1_ := Aside0.mk (below_step (by repeat (first | (with_reducible first | exact HB.out | apply below_alloc | apply pw_below_drewN | apply below_drew1 | refine below_set ?_ GE198.out) | exact HB.out)) hb); clear BK198; clear HB; have BK198 := n0_; have HB := n1_; clear n0_ n1_; (try clear hb); (try clear hb2); (try clear hk); (try clear hi)))
                    go_ret
                    exact ⟨by first | rfl | (simp [errW_none, errW_some] <;> rfl) | (simp [*, errW_none, errW_some] <;> rfl), by repeat (first | (with_reducible first | exact HB.out | apply below_alloc | apply pw_below_drewN | apply below_drew1 | refine below_set ?_ GE198.out) | exact HB.out)⟩
                  · rw [if_neg c27] at H
                    exact absurd H (by simp)
                · rw [if_neg c26] at H
                  exact absurd H (by simp)
              · replace c24 := Bool.eq_false_iff.mpr c24
                subst c24
                have H1 : ((colophonref07_Ten.f k a0_3).bind fun t202 => (if 6 + t202.size ≤ 9223372036854775807 then (some ((⟨#[98, 101, 103, 105, 110, 32]⟩ : ByteArray) ++ t202)) else (none))) = some r := by rw [if_neg (show ¬ (false = true) by decide)] at H; exact H
                clear H
                have H := H1
                clear H1
                replace H := Option.bind_eq_some_iff.mp H
                obtain ⟨t202, A310, H⟩ := H
                replace H : (if 6 + t202.size ≤ 9223372036854775807 then (some ((⟨#[98, 101, 103, 105, 110, 32]⟩ : ByteArray) ++ t202)) else (none)) = some r := H
                have A31 := Aside0.mk A310
                clear A310
                by_cases c32 : 6 + t202.size ≤ 9223372036854775807
                · rw [if_pos c32] at H
                  have c32b0 := eq_true c32
                  have c32b1 : decide (6 + t202.size ≤ 9223372036854775807) = true := decide_eq_true c32
                  try have c32b2 : (9223372036854775807 < 6 + t202.size) = False := eq_false (Nat.not_lt.2 c32)
                  obtain rfl := Option.some.inj H
                  go_enter Tryd.func47, Tryd.ntmps47
                  go_wp2_with (first | ((with_reducible refine gate_dst (N := 1) rfl ?_); refine box_event ?hg (N := 1) ?hd (cs := #[.int .u8 a0_0, .string a0_1, .int .i64 a0_2, .int .i64 a0_3, .bool false]) (t := 33) ?hr ?_; (case hd => rfl); (case hg => rfl); (case hr => first | (go_simp; done) | (go_simp; rfl)); intro gb198 hg w33 hbox hb; have n0_ := Aside0.mk (below_step (by repeat (first | (with_reducible first | exact HB.out | apply below_alloc | apply pw_below_drewN | apply below_drew1) | exact HB.out)) hb); have n1_ := Aside0.mk (hbox); have n2_ := Aside0.mk ((by rw [hg]; exact (below_size (by repeat (first | (with_reducible first | exact HB.out | apply below_alloc | apply pw_below_drewN | apply below_drew1) | exact HB.out))) : w.heap.size ≤ gb198)); have n3_ := Aside0.mk ((by rw [hg]; exact (below_size (by repeat (first | (with_reducible first | exact HB.out | apply below_alloc | apply pw_below_drewN | apply below_drew1) | exact HB.out))) : w.heap.size ≤ gb198)); clear HB; have HB := n0_; have BK198 := n1_; have GW198 := n2_; have GE198 := n3_; clear n0_ n1_ n2_ n3_; clear hb hbox hg; have hcz34_0 : w33.cell? ⟨gb198, 0, none⟩ = some (.int .u8 a0_0) := (blk_cell BK198.out 0).trans rfl; have hcz34_1 : w33.cell? ⟨gb198, 1, none⟩ = some (.string a0_1) := (blk_cell BK198.out 1).trans rfl; have hcz34_2 : w33.cell? ⟨gb198, 2, none⟩ = some (.int .i64 a0_2) := (blk_cell BK198.out 2).trans rfl; have hcz34_3 : w33.cell? ⟨gb198, 3, none⟩ = some (.int .i64 a0_3) := (blk_cell BK198.out 3).trans rfl; have hcz34_4 : w33.cell? ⟨gb198, 4, none⟩ = some (.bool false) := (blk_cell BK198.out 4).trans rfl; have hfz34_0 := blk_frozen BK198.out 0; have hfz34_1 := blk_frozen BK198.out 1; have hfz34_2 := blk_frozen BK198.out 2; have hfz34_3 := blk_frozen BK198.out 3; have hfz34_4 := blk_frozen BK198.out 4) | ((with_reducible refine gate_callee (f := 74) rfl ?_); refine goesL_ (some 34) rfl rfl Tryd.func74 (by kernel_rfl) rfl #[.int .i64 a0_3] rfl (by (try simp only [List.map_toArray, List.map_cons, List.map_nil]); first | done | rfl | (simp only [List.length_drop, List.length_take]; rfl)) ?_; (with_reducible refine (colophonref07_Ten.calls k a0_3 t202 _ A31.out).mono ?_); rintro e w35 ⟨rfl, hb⟩; refine ⟨_, rfl, ?_⟩; have n0_ := Aside0.mk (blk_below (g := gb198) (o := .cells #[.int .u8 a0_0, .string a0_1, .int .i64 a0_2, .int .i64 a0_3, .bool false] 33 (0, 0)) (by (with_reducible repeat (first | refine blk_drewN ?_ _ | refine blk_drew ?_ | refine blk_alloc ?_ _)); exact BK198.out) hb); have n1_ := Aside0.mk (below_step (by repeat (first | (with_reducible first | exact HB.out | apply below_alloc | apply pw_below_drewN | apply below_drew1 | refine below_set ?_ GE198.out) | exact HB.out)) hb); clear BK198; clear HB; have BK198 := n0_; have HB := n1_; clear n0_ n1_; (try clear hb); (try clear hb2); (try clear hk); (try clear hi)))
                  go_ret
                  exact ⟨by first | rfl | (simp [errW_none, errW_some] <;> rfl) | (simp [*, errW_none, errW_some] <;> rfl), by repeat (first | (with_reducible first | exact HB.out | apply below_alloc | apply pw_below_drewN | apply below_drew1 | refine below_set ?_ GE198.out) | exact HB.out)⟩
                · rw [if_neg c32] at H
                  exact absurd H (by simp)
            · rw [if_neg c23] at H
              have c23b0 : (a0_0 == 6) = false := beq_eq_false_iff_ne.mpr c23
              have c23b1 : (a0_0 != 6) = true := bne_iff_ne.mpr c23
              obtain rfl := Option.some.inj H
              go_enter Tryd.func47, Tryd.ntmps47
              go_wp2_with (first | ((with_reducible refine gate_dst (N := 1) rfl ?_); refine box_event ?hg (N := 1) ?hd (cs := #[.int .u8 a0_0, .string a0_1, .int .i64 a0_2, .int .i64 a0_3, .bool a0_4]) (t := 33) ?hr ?_; (case hd => rfl); (case hg => rfl); (case hr => first | (go_simp; done) | (go_simp; rfl)); intro gb198 hg w36 hbox hb; have n0_ := Aside0.mk (below_step (by repeat (first | (with_reducible first | exact HB.out | apply below_alloc | apply pw_below_drewN | apply below_drew1) | exact HB.out)) hb); have n1_ := Aside0.mk (hbox); have n2_ := Aside0.mk ((by rw [hg]; exact (below_size (by repeat (first | (with_reducible first | exact HB.out | apply below_alloc | apply pw_below_drewN | apply below_drew1) | exact HB.out))) : w.heap.size ≤ gb198)); have n3_ := Aside0.mk ((by rw [hg]; exact (below_size (by repeat (first | (with_reducible first | exact HB.out | apply below_alloc | apply pw_below_drewN | apply below_drew1) | exact HB.out))) : w.heap.size ≤ gb198)); clear HB; have HB := n0_; have BK198 := n1_; have GW198 := n2_; have GE198 := n3_; clear n0_ n1_ n2_ n3_; clear hb hbox hg; have hcz37_0 : w36.cell? ⟨gb198, 0, none⟩ = some (.int .u8 a0_0) := (blk_cell BK198.out 0).trans rfl; have hcz37_1 : w36.cell? ⟨gb198, 1, none⟩ = some (.string a0_1) := (blk_cell BK198.out 1).trans rfl; have hcz37_2 : w36.cell? ⟨gb198, 2, none⟩ = some (.int .i64 a0_2) := (blk_cell BK198.out 2).trans rfl; have hcz37_3 : w36.cell? ⟨gb198, 3, none⟩ = some (.int .i64 a0_3) := (blk_cell BK198.out 3).trans rfl; have hcz37_4 : w36.cell? ⟨gb198, 4, none⟩ = some (.bool a0_4) := (blk_cell BK198.out 4).trans rfl; have hfz37_0 := blk_frozen BK198.out 0; have hfz37_1 := blk_frozen BK198.out 1; have hfz37_2 := blk_frozen BK198.out 2; have hfz37_3 := blk_frozen BK198.out 3; have hfz37_4 := blk_frozen BK198.out 4))
              go_ret
              exact ⟨by first | rfl | (simp [errW_none, errW_some] <;> rfl) | (simp [*, errW_none, errW_some] <;> rfl), by repeat (first | (with_reducible first | exact HB.out | apply below_alloc | apply pw_below_drewN | apply below_drew1 | refine below_set ?_ GE198.out) | exact HB.out)⟩

/-! ### colophonref07_Print: function 26 -/
def colophonref07_Print.l0 : Nat → List (S33) → List Int → Int → Option (ByteArray × Int)
  | 0, _, _, _ => none
  | k + 1, x0, x6, x7 => if x7 < (x0.length : Int) then (if 0 ≤ x7 then ((colophonref07_Line.f k ((rd_T33 x0 x7).f0) ((rd_T33 x0 x7).f1) ((rd_T33 x0 x7).f2) ((rd_T33 x0 x7).f3) ((rd_T33 x0 x7).f4)).bind fun t206 => (if x6.length + t206.size < 140737488355328 then ((some (x6 ++ bytesOf t206 : List Int)).bind fun y207 => (if y207.length < 140737488355328 then ((some (y207 ++ [10] : List Int)).bind fun y210 => (if (y210.length : Int) > 4194304 then (some ((⟨#[]⟩ : ByteArray), 2)) else (colophonref07_Print.l0 k x0 y210 (wrap64 (x7 + 1))))) else (none))) else (none))) else (none)) else (some (strOfNums x6, 0))
def colophonref07_Print.f (k : Nat) (l0 : List (S33)) : Option (ByteArray × Int) := (colophonref07_Check.f k l0).bind fun bt203 => (if bt203.1 = 0 then (colophonref07_Print.l0 k l0 ([] : List Int) 0) else (some ((⟨#[]⟩ : ByteArray), bt203.1)))
theorem colophonref07_Print.mono_l : ∀ k, (∀ y0 y1 y2, LeO (colophonref07_Print.l0 k y0 y1 y2) (colophonref07_Print.l0 (k + 1) y0 y1 y2))
  | 0 => fun _ _ _ r h => by simp [colophonref07_Print.l0] at h
  | k + 1 => by
    have ih0 := colophonref07_Print.mono_l k
    · intro y0 y1 y2
      unfold colophonref07_Print.l0
      repeat' first
      | (with_reducible exact ih0 _ _ _)
      | (with_reducible exact colophonref07_Check.mono _ _)
      | (with_reducible exact colophonref07_Line.mono _ _ _ _ _ _)
      | (with_reducible exact LeO.refl _)
      | (with_reducible exact LeO.none _)
      | (with_reducible refine LeO.ite ?_ ?_)
      | (with_reducible refine LeO.bind ?_ (fun _ => ?_))
      | exact ih0 _ _ _
      | exact colophonref07_Check.mono _ _
      | exact colophonref07_Line.mono _ _ _ _ _ _
      | exact LeO.none _
      | refine LeO.ite ?_ ?_
      | refine LeO.bind ?_ (fun _ => ?_)
theorem colophonref07_Print.mono : ∀ a0 k, LeO (colophonref07_Print.f k a0) (colophonref07_Print.f (k + 1) a0) := by
  intro a0 k
  have ih0 := colophonref07_Print.mono_l k
  unfold colophonref07_Print.f
  repeat' first
      | (with_reducible exact ih0 _ _ _)
      | (with_reducible exact colophonref07_Check.mono _ _)
      | (with_reducible exact colophonref07_Line.mono _ _ _ _ _ _)
      | (with_reducible exact LeO.refl _)
      | (with_reducible exact LeO.none _)
      | (with_reducible refine LeO.ite ?_ ?_)
      | (with_reducible refine LeO.bind ?_ (fun _ => ?_))
      | exact ih0 _ _ _
      | exact colophonref07_Check.mono _ _
      | exact colophonref07_Line.mono _ _ _ _ _ _
      | exact LeO.none _
      | refine LeO.ite ?_ ?_
      | refine LeO.bind ?_ (fun _ => ?_)
set_option maxHeartbeats 8000000 in
set_option maxRecDepth 100000 in
theorem colophonref07_Print.calls (k : Nat) (A0 : Option Addr) (c0 : Nat) (l0 : List (S33)) (r1 : ByteArray) (r2 : Int) (w : World) (hr0 : Kd.C k33 w A0 l0.length l0) (hc0 : l0.length ≤ c0) (h : colophonref07_Print.f k l0 = some (r1, r2)) :
    Calls Tryd.prog 26 #[.slice A0 l0.length c0] w fun e w' => e = .returned (.tuple #[.string r1, .int .i64 r2]) ∧ Below w.heap.size w w' := by
  have hu33 := Tryd.underlying33
  have HR0 := Aside0.mk hr0
  have HC0 := Aside0.mk hc0
  clear hr0 hc0
  have HB := Aside0.mk (Below.refl w.heap.size w)
  have H : ((colophonref07_Check.f k l0).bind fun bt203 => (if bt203.1 = 0 then (colophonref07_Print.l0 k l0 ([] : List Int) 0) else (some ((⟨#[]⟩ : ByteArray), bt203.1)))) = some (r1, r2) := h
  clear h
  replace H := Option.bind_eq_some_iff.mp H
  obtain ⟨⟨t203, t204⟩, A20, H⟩ := H
  replace H : (if t203 = 0 then (colophonref07_Print.l0 k l0 ([] : List Int) 0) else (some ((⟨#[]⟩ : ByteArray), t203))) = some (r1, r2) := H
  have A2 := Aside0.mk A20
  clear A20
  by_cases c3 : t203 = 0
  · rw [if_pos c3] at H
    have c3b0 : (t203 == 0) = true := beq_iff_eq.mpr c3
    have c3b1 : (t203 != 0) = false := bne_eq_false_iff_eq.mpr c3
    clear c3
    have H' := Aside0.mk H
    clear H
    go_enter Tryd.func26, Tryd.ntmps26
    go_wp2_with (first | ((with_reducible refine gate_callee (f := 24) rfl ?_); refine goesL_ (some 10) rfl rfl Tryd.func24 (by kernel_rfl) rfl #[.slice A0 l0.length c0] rfl (by (try simp only [List.map_toArray, List.map_cons, List.map_nil]); first | done | rfl | (simp only [List.length_drop, List.length_take]; rfl)) ?_; (with_reducible refine (colophonref07_Check.calls k _ _ l0 t203 t204 _ ?side1 ?side2 A2.out).mono ?_); (case side1 => repeat (first | exact HR0.out | (with_reducible refine Kd.C_alloc ?_ _) | (with_reducible refine Kd.C_drewN ?_ _) | (with_reducible refine Kd.C_drew ?_))); (case side2 => exact HC0.out); rintro e w4 ⟨rfl, hb⟩; refine ⟨_, rfl, ?_⟩; have n0_ := Aside0.mk (below_step (by repeat (first | (with_reducible first | exact HB.out | apply below_alloc | apply pw_below_drewN | apply below_drew1) | exact HB.out)) hb); clear HB; have HB := n0_; clear n0_; (try clear hb); (try clear hb2); (try clear hk); (try clear hi)))
    go_loopg [6, 7] k (fun kq v6 v7 w' => ∃ (x6_1 : List Int) (x7_1 : Int), v7 = .int .i64 x7_1 ∧ Aside0 (colophonref07_Print.l0 kq l0 x6_1 x7_1 = some (r1, r2)) ∧ Aside0 (kq ≤ k) ∧ Aside0 (Kd.R (Kd.int .u8) 5 w' w.heap.size (fun _ => True) v6 x6_1) ∧ Aside0 (Below w.heap.size w w'))
    case atStart => exact ⟨(([] : List Int)), (0), (by first | rfl | (simp; done) | (simp [*]; done)), H', ⟨Nat.le_refl _⟩, ⟨by first | exact Kd.R_nil _ _ _ _ _ | exact Kd.N_nil _ _ _ _ _ | exact Kd.V_nil _ _ _ _ _ | exact Kd.Q_nil _ _ _ _ _ | exact Kd.S_nil _ _ _ _ _⟩, ⟨by repeat (first | (with_reducible first | exact HB.out | apply below_alloc | apply pw_below_drewN | apply below_drew1) | exact HB.out)⟩⟩
    case round =>
      clear H'
      try clear c2
      try clear p2
      try clear c3
      try clear c3b0
      try clear c3b1
      obtain ⟨x6_1, x7_1, rfl, HA, HK1, HO_6, HB⟩ := hrel
      cases gk with
      | zero => exact absurd HA.out (by simp [colophonref07_Print.l0])
      | succ k1 =>
        have H := HA.out
        clear HA
        simp only [colophonref07_Print.l0] at H
        by_cases c5 : x7_1 < (l0.length : Int)
        · rw [if_pos c5] at H
          have c5b0 : decide (x7_1 < (l0.length : Int)) = true := decide_eq_true c5
          clear c5
          by_cases c6 : 0 ≤ x7_1
          · rw [if_pos c6] at H
            have c6b0 : decide (0 ≤ x7_1) = true := decide_eq_true c6
            clear c6
            replace H := Option.bind_eq_some_iff.mp H
            obtain ⟨t206, A70, H⟩ := H
            replace H : (if x6_1.length + t206.size < 140737488355328 then ((some (x6_1 ++ bytesOf t206 : List Int)).bind fun y207 => (if y207.length < 140737488355328 then ((some (y207 ++ [10] : List Int)).bind fun y210 => (if (y210.length : Int) > 4194304 then (some ((⟨#[]⟩ : ByteArray), 2)) else (colophonref07_Print.l0 k1 l0 y210 (wrap64 (x7_1 + 1))))) else (none))) else (none)) = some (r1, r2) := H
            have A7 := Aside0.mk A70
            clear A70
            by_cases c8 : x6_1.length + t206.size < 140737488355328
            · rw [if_pos c8] at H
              have LMc8 := Aside0.mk c8
              clear c8
              obtain ⟨y207, hy207⟩ : ∃ y_ : List Int, y_ = (x6_1 ++ bytesOf t206) := ⟨_, rfl⟩
              replace H : (if y207.length < 140737488355328 then ((some (y207 ++ [10] : List Int)).bind fun y210 => (if (y210.length : Int) > 4194304 then (some ((⟨#[]⟩ : ByteArray), 2)) else (colophonref07_Print.l0 k1 l0 y210 (wrap64 (x7_1 + 1))))) else (none)) = some (r1, r2) := by first | (rw [hy207]; with_reducible exact H) | (have H2_ := (Option.bind_some _ _).symm.trans H; rw [hy207]; with_reducible exact H2_) | (have H2_ := (Option.bind_some _ _).symm.trans H; with_reducible exact H2_) | with_reducible exact H | (rw [hy207]; exact H) | exact H
              have Ny207 := Aside0.mk hy207
              clear hy207
              by_cases c9 : y207.length < 140737488355328
              · rw [if_pos c9] at H
                have LMc9 := Aside0.mk c9
                clear c9
                obtain ⟨y210, hy210⟩ : ∃ y_ : List Int, y_ = (y207 ++ [10]) := ⟨_, rfl⟩
                replace H : (if (y210.length : Int) > 4194304 then (some ((⟨#[]⟩ : ByteArray), 2)) else (colophonref07_Print.l0 k1 l0 y210 (wrap64 (x7_1 + 1)))) = some (r1, r2) := by first | (rw [hy210]; with_reducible exact H) | (have H2_ := (Option.bind_some _ _).symm.trans H; rw [hy210]; with_reducible exact H2_) | (have H2_ := (Option.bind_some _ _).symm.trans H; with_reducible exact H2_) | with_reducible exact H | (rw [hy210]; exact H) | exact H
                have Ny210 := Aside0.mk hy210
                clear hy210
                by_cases c10 : (y210.length : Int) > 4194304
                · rw [if_pos c10] at H
                  have c10b0 : decide (4194304 < (y210.length : Int)) = true := decide_eq_true c10
                  have c10b1 : decide (4194304 < y210.length) = true := decide_eq_true (by omega)
                  clear c10
                  simp only [Option.some.injEq, Prod.mk.injEq] at H
                  obtain ⟨rfl, rfl⟩ := H
                  have p205 : 0 ≤ (x7_1 : Int) := of_decide_eq_true (by first | (with_reducible assumption) | assumption)
                  have q205 : x7_1 < (l0.length : Int) := of_decide_eq_true (by first | (with_reducible assumption) | assumption)
                  obtain ⟨ad205, e205, hx205_0, hx205_1, hx205_2, hx205_3, hx205_4⟩ := at_T33 HR0.out x7_1 p205 q205
                  cases e205
                  replace hx205_0 := (HB.out.cell (World.block_lt_of_cell? w _ hx205_0)).trans hx205_0
                  replace hx205_1 := (HB.out.cell (World.block_lt_of_cell? w _ hx205_1)).trans hx205_1
                  replace hx205_2 := (HB.out.cell (World.block_lt_of_cell? w _ hx205_2)).trans hx205_2
                  replace hx205_3 := (HB.out.cell (World.block_lt_of_cell? w _ hx205_3)).trans hx205_3
                  replace hx205_4 := (HB.out.cell (World.block_lt_of_cell? w _ hx205_4)).trans hx205_4
                  replace p205 := eq_true p205
                  replace q205 := eq_true q205
                  go_wp2_with (first | ((with_reducible refine gate_callee (f := 47) rfl ?_); refine goesL_ (some 27) rfl rfl Tryd.func47 (by kernel_rfl) rfl #[.agg #[.int .u8 ((rd_T33 l0 x7_1).f0), .string ((rd_T33 l0 x7_1).f1), .int .i64 ((rd_T33 l0 x7_1).f2), .int .i64 ((rd_T33 l0 x7_1).f3), .bool ((rd_T33 l0 x7_1).f4)]] rfl (by (try simp only [List.map_toArray, List.map_cons, List.map_nil]); first | done | rfl | (simp only [List.length_drop, List.length_take]; rfl)) ?_; (with_reducible refine (colophonref07_Line.calls k1 ((rd_T33 l0 x7_1).f0) ((rd_T33 l0 x7_1).f1) ((rd_T33 l0 x7_1).f2) ((rd_T33 l0 x7_1).f3) ((rd_T33 l0 x7_1).f4) t206 _ A7.out).mono ?_); rintro e w11 ⟨rfl, hb⟩; refine ⟨_, rfl, ?_⟩; have n0_ := Aside0.mk (Kd.R_below (by (with_reducible repeat (first | apply Kd.R_alloc | apply Kd.R_drewN | apply Kd.R_drew)); exact HO_6.out) hb); have n1_ := Aside0.mk (below_step (by repeat (first | (with_reducible first | exact HB.out | apply below_alloc | apply pw_below_drewN | apply below_drew1) | exact HB.out)) hb); clear HO_6; clear HB; have HO_6 := n0_; have HB := n1_; clear n0_ n1_; (try clear hb); (try clear hb2); (try clear hk); (try clear hi)) | (at_builtin; refine print_append_str (w0 := w) w.heap.size rfl (.tmp 22) _ 39 9 5 rfl Tryd.underlying39 Tryd.underlying9 info5 u6 x6_1 t206 rfl rfl ?aO ?aB ?aS ?aL ?_; (case aB => exact (by repeat (first | (with_reducible first | exact HB.out | apply below_alloc | apply pw_below_drewN | apply below_drew1) | exact HB.out))); (case aO => exact (Kd.own_of_R (by (with_reducible repeat (first | apply Kd.R_alloc | apply Kd.R_drewN | apply Kd.R_drew)); exact HO_6.out))); (case aS => exact (below_size (by repeat (first | (with_reducible first | exact HB.out | apply below_alloc | apply pw_below_drewN | apply below_drew1) | exact HB.out)))); (case aL => have := LMc8.out; omega); intro v208 w12 ho0 hb hg; have ho := Kd.R_of_own (h1 := fun _ => rfl) (ok := fun _ => True) ho0 (fun _ _ => trivial); clear ho0; have hat := True.intro; rw [← Ny207.out] at ho; change Kd.R (Kd.int .u8) 5 w12 w.heap.size (fun _ => True) v208 y207 at ho; have n0_ := Aside0.mk (hb); have n1_ := Aside0.mk (ho); clear HB; clear HO_6; have HB := n0_; have HO209 := n1_; clear n0_ n1_; clear ho hb hg hat) | ((with_reducible refine gate_builtin (b := .append) (xs := #[.tmp 29, .tmp 30]) rfl ?_); at_builtin; refine Kd.R_append (Kd.int .u8) (w0 := w) w.heap.size rfl (.tmp 29) (.tmp 30) 39 5 (.int .u8 0) 1 rfl Tryd.underlying39 info5 rfl (by decide) (by omega) v208 y207 10 [.int .u8 10] (fun _ => True) (fun _ => False) rfl rfl ?aP (fun _ hk => hk.elim) ?aF ?aO ?aB ?aS ?aL ?_; (case aP => exact rfl); (case aB => exact (by repeat (first | (with_reducible first | exact HB.out | apply below_alloc | apply pw_below_drewN | apply below_drew1) | exact HB.out))); (case aF => exact (fun _ _ => trivial)); (case aO => exact (by (with_reducible repeat (first | apply Kd.R_alloc | apply Kd.R_drewN | apply Kd.R_drew)); exact HO209.out)); (case aS => exact (below_size (by repeat (first | (with_reducible first | exact HB.out | apply below_alloc | apply pw_below_drewN | apply below_drew1) | exact HB.out)))); (case aL => have := LMc9.out; omega); intro v211 w13 ho hb hg hat; rw [← Ny210.out] at ho; have n0_ := Aside0.mk (hb); have n1_ := Aside0.mk (ho); clear HB; clear HO209; have HB := n0_; have HO212 := n1_; clear n0_ n1_; clear ho hb hg hat; obtain ⟨Ao14, co14, eo14⟩ := Kd.R_slice HO212.out; subst eo14))
                  go_ret2
                  exact ⟨by first | rfl | (simp [errW_none, errW_some] <;> rfl) | (simp [*, errW_none, errW_some] <;> rfl), by repeat (first | (with_reducible first | exact HB.out | apply below_alloc | apply pw_below_drewN | apply below_drew1) | exact HB.out)⟩
                · rw [if_neg c10] at H
                  have c10b0 : decide (4194304 < (y210.length : Int)) = false := decide_eq_false c10
                  have c10b1 : decide (4194304 < y210.length) = false := decide_eq_false (by omega)
                  clear c10
                  have H' := Aside0.mk H
                  clear H
                  have p205 : 0 ≤ (x7_1 : Int) := of_decide_eq_true (by first | (with_reducible assumption) | assumption)
                  have q205 : x7_1 < (l0.length : Int) := of_decide_eq_true (by first | (with_reducible assumption) | assumption)
                  obtain ⟨ad205, e205, hx205_0, hx205_1, hx205_2, hx205_3, hx205_4⟩ := at_T33 HR0.out x7_1 p205 q205
                  cases e205
                  replace hx205_0 := (HB.out.cell (World.block_lt_of_cell? w _ hx205_0)).trans hx205_0
                  replace hx205_1 := (HB.out.cell (World.block_lt_of_cell? w _ hx205_1)).trans hx205_1
                  replace hx205_2 := (HB.out.cell (World.block_lt_of_cell? w _ hx205_2)).trans hx205_2
                  replace hx205_3 := (HB.out.cell (World.block_lt_of_cell? w _ hx205_3)).trans hx205_3
                  replace hx205_4 := (HB.out.cell (World.block_lt_of_cell? w _ hx205_4)).trans hx205_4
                  replace p205 := eq_true p205
                  replace q205 := eq_true q205
                  go_wp2_with (first | ((with_reducible refine gate_callee (f := 47) rfl ?_); refine goesL_ (some 27) rfl rfl Tryd.func47 (by kernel_rfl) rfl #[.agg #[.int .u8 ((rd_T33 l0 x7_1).f0), .string ((rd_T33 l0 x7_1).f1), .int .i64 ((rd_T33 l0 x7_1).f2), .int .i64 ((rd_T33 l0 x7_1).f3), .bool ((rd_T33 l0 x7_1).f4)]] rfl (by (try simp only [List.map_toArray, List.map_cons, List.map_nil]); first | done | rfl | (simp only [List.length_drop, List.length_take]; rfl)) ?_; (with_reducible refine (colophonref07_Line.calls k1 ((rd_T33 l0 x7_1).f0) ((rd_T33 l0 x7_1).f1) ((rd_T33 l0 x7_1).f2) ((rd_T33 l0 x7_1).f3) ((rd_T33 l0 x7_1).f4) t206 _ A7.out).mono ?_); rintro e w15 ⟨rfl, hb⟩; refine ⟨_, rfl, ?_⟩; have n0_ := Aside0.mk (Kd.R_below (by (with_reducible repeat (first | apply Kd.R_alloc | apply Kd.R_drewN | apply Kd.R_drew)); exact HO_6.out) hb); have n1_ := Aside0.mk (below_step (by repeat (first | (with_reducible first | exact HB.out | apply below_alloc | apply pw_below_drewN | apply below_drew1) | exact HB.out)) hb); clear HO_6; clear HB; have HO_6 := n0_; have HB := n1_; clear n0_ n1_; (try clear hb); (try clear hb2); (try clear hk); (try clear hi)) | (at_builtin; refine print_append_str (w0 := w) w.heap.size rfl (.tmp 22) _ 39 9 5 rfl Tryd.underlying39 Tryd.underlying9 info5 u6 x6_1 t206 rfl rfl ?aO ?aB ?aS ?aL ?_; (case aB => exact (by repeat (first | (with_reducible first | exact HB.out | apply below_alloc | apply pw_below_drewN | apply below_drew1) | exact HB.out))); (case aO => exact (Kd.own_of_R (by (with_reducible repeat (first | apply Kd.R_alloc | apply Kd.R_drewN | apply Kd.R_drew)); exact HO_6.out))); (case aS => exact (below_size (by repeat (first | (with_reducible first | exact HB.out | apply below_alloc | apply pw_below_drewN | apply below_drew1) | exact HB.out)))); (case aL => have := LMc8.out; omega); intro v208 w16 ho0 hb hg; have ho := Kd.R_of_own (h1 := fun _ => rfl) (ok := fun _ => True) ho0 (fun _ _ => trivial); clear ho0; have hat := True.intro; rw [← Ny207.out] at ho; change Kd.R (Kd.int .u8) 5 w16 w.heap.size (fun _ => True) v208 y207 at ho; have n0_ := Aside0.mk (hb); have n1_ := Aside0.mk (ho); clear HB; clear HO_6; have HB := n0_; have HO209 := n1_; clear n0_ n1_; clear ho hb hg hat) | ((with_reducible refine gate_builtin (b := .append) (xs := #[.tmp 29, .tmp 30]) rfl ?_); at_builtin; refine Kd.R_append (Kd.int .u8) (w0 := w) w.heap.size rfl (.tmp 29) (.tmp 30) 39 5 (.int .u8 0) 1 rfl Tryd.underlying39 info5 rfl (by decide) (by omega) v208 y207 10 [.int .u8 10] (fun _ => True) (fun _ => False) rfl rfl ?aP (fun _ hk => hk.elim) ?aF ?aO ?aB ?aS ?aL ?_; (case aP => exact rfl); (case aB => exact (by repeat (first | (with_reducible first | exact HB.out | apply below_alloc | apply pw_below_drewN | apply below_drew1) | exact HB.out))); (case aF => exact (fun _ _ => trivial)); (case aO => exact (by (with_reducible repeat (first | apply Kd.R_alloc | apply Kd.R_drewN | apply Kd.R_drew)); exact HO209.out)); (case aS => exact (below_size (by repeat (first | (with_reducible first | exact HB.out | apply below_alloc | apply pw_below_drewN | apply below_drew1) | exact HB.out)))); (case aL => have := LMc9.out; omega); intro v211 w17 ho hb hg hat; rw [← Ny210.out] at ho; have n0_ := Aside0.mk (hb); have n1_ := Aside0.mk (ho); clear HB; clear HO209; have HB := n0_; have HO212 := n1_; clear n0_ n1_; clear ho hb hg hat; obtain ⟨Ao18, co18, eo18⟩ := Kd.R_slice HO212.out; subst eo18))
                  go_roundg k1
                  case measure => have := HK1.out; omega
                  case rel => exact ⟨(y210), (wrap64 (x7_1 + 1)), (by first | rfl | (simp; done) | (simp [*]; done)), H', ⟨by have := HK1.out; omega⟩, ⟨by (with_reducible repeat (first | apply Kd.R_alloc | apply Kd.R_drewN | apply Kd.R_drew)); exact HO212.out⟩, ⟨by repeat (first | (with_reducible first | exact HB.out | apply below_alloc | apply pw_below_drewN | apply below_drew1) | exact HB.out)⟩⟩
              · rw [if_neg c9] at H
                exact absurd H (by simp)
            · rw [if_neg c8] at H
              exact absurd H (by simp)
          · rw [if_neg c6] at H
            exact absurd H (by simp)
        · rw [if_neg c5] at H
          have c5b0 : decide (x7_1 < (l0.length : Int)) = false := decide_eq_false c5
          clear c5
          simp only [Option.some.injEq, Prod.mk.injEq] at H
          obtain ⟨rfl, rfl⟩ := H
          have hcv19 := own_string (P := Tryd.prog) Tryd.underlying39 Tryd.underlying5 Tryd.underlying9 (Kd.own_of_R HO_6.out)
          go_wp2
          go_ret2
          exact ⟨by first | rfl | (simp [errW_none, errW_some] <;> rfl) | (simp [*, errW_none, errW_some] <;> rfl), by repeat (first | (with_reducible first | exact HB.out | apply below_alloc | apply pw_below_drewN | apply below_drew1) | exact HB.out)⟩
  · rw [if_neg c3] at H
    have c3b0 : (t203 == 0) = false := beq_eq_false_iff_ne.mpr c3
    have c3b1 : (t203 != 0) = true := bne_iff_ne.mpr c3
    simp only [Option.some.injEq, Prod.mk.injEq] at H
    obtain ⟨rfl, rfl⟩ := H
    go_enter Tryd.func26, Tryd.ntmps26
    go_wp2_with (first | ((with_reducible refine gate_callee (f := 24) rfl ?_); refine goesL_ (some 10) rfl rfl Tryd.func24 (by kernel_rfl) rfl #[.slice A0 l0.length c0] rfl (by (try simp only [List.map_toArray, List.map_cons, List.map_nil]); first | done | rfl | (simp only [List.length_drop, List.length_take]; rfl)) ?_; (with_reducible refine (colophonref07_Check.calls k _ _ l0 t203 t204 _ ?side1 ?side2 A2.out).mono ?_); (case side1 => repeat (first | exact HR0.out | (with_reducible refine Kd.C_alloc ?_ _) | (with_reducible refine Kd.C_drewN ?_ _) | (with_reducible refine Kd.C_drew ?_))); (case side2 => exact HC0.out); rintro e w20 ⟨rfl, hb⟩; refine ⟨_, rfl, ?_⟩; have n0_ := Aside0.mk (below_step (by repeat (first | (with_reducible first | exact HB.out | apply below_alloc | apply pw_below_drewN | apply below_drew1) | exact HB.out)) hb); clear HB; have HB := n0_; clear n0_; (try clear hb); (try clear hb2); (try clear hk); (try clear hi)))
    go_ret2
    exact ⟨by first | rfl | (simp [errW_none, errW_some] <;> rfl) | (simp [*, errW_none, errW_some] <;> rfl), by repeat (first | (with_reducible first | exact HB.out | apply below_alloc | apply pw_below_drewN | apply below_drew1) | exact HB.out)⟩

/-! ### colophonlaw07_kept: function 27 -/
def colophonlaw07_kept.f (k : Nat) (l0 : List (S33)) (l1 : List (S33)) : Option (Bool) := (colophonref07_Same.f k l0 l1).bind fun t213 => (if t213 = true then (if 0 ≤ (wrap64 ((l1.length : Int) + 1)) then (if (wrap64 ((l1.length : Int) + 1)) ≤ (l0.length : Int) then ((some (l0.take ((wrap64 ((l1.length : Int) + 1)) : Int).toNat : List (S33))).bind fun y214 => (if 0 ≤ (l1.length : Int) then (if (l1.length : Int) < (y214.length : Int) then (some (((rd_T33 y214 (l1.length : Int)).f0) == 99)) else (none)) else (none))) else (none)) else (none)) else (some false))
/-! ### colophonlaw07_DocChecks: function 9 -/
def colophonlaw07_DocChecks.f (k : Nat) (l0 : List (S33)) : Option (Bool) := (colophonlaw07_lent.f l0).bind fun t219 => ((doc_Check.f k t219).bind fun bt222 => ((colophonref07_Check.f k l0).bind fun bt224 => ((doc_Print.f t219).bind fun bt226 => ((colophonref07_Print.f k l0).bind fun bt228 => ((doc_Print.f t219).bind fun bt230 => ((colophonlaw07_awake.f k).bind fun t232 => (if t232 = true then (if bt222.1 = bt224.1 then (if bt222.2 = bt224.2 then (if bt226.1.toList = bt228.1.toList then (if bt226.2 = bt228.2 then (if bt230.1.toList = bt228.1.toList then (if bt230.2 = bt228.2 then ((colophonlaw07_kept.f k t219 l0).bind fun t233 => (some t233)) else (some false)) else (some false)) else (some false)) else (some false)) else (some false)) else (some false)) else (some false))))))))
/-! ### colophonref07_digit: function 102 -/
def colophonref07_digit.j0 : Nat → Int → Bool → Option (Int)
  | 0, _, _ => none
  | k + 1, x0, x8 => if x8 = true then (some ((x0 - 48) % 256)) else (if x0 ≥ 97 then (if x0 ≤ 102 then (some (((x0 - 97) % 256) + 10)) else (some 16)) else (some 16))
def colophonref07_digit.f (k : Nat) (a0 : Int) : Option (Int) := if a0 ≥ 48 then (colophonref07_digit.j0 k a0 (decide (a0 ≤ 57))) else (colophonref07_digit.j0 k a0 false)
theorem colophonref07_digit.mono_l : ∀ k, (∀ y0 y1, LeO (colophonref07_digit.j0 k y0 y1) (colophonref07_digit.j0 (k + 1) y0 y1))
  | 0 => fun _ _ r h => by simp [colophonref07_digit.j0] at h
  | k + 1 => by
    have ih0 := colophonref07_digit.mono_l k
    · intro y0 y1
      unfold colophonref07_digit.j0
      repeat' first
      | (with_reducible exact ih0 _ _)
      | (with_reducible exact LeO.refl _)
      | (with_reducible exact LeO.none _)
      | (with_reducible refine LeO.ite ?_ ?_)
      | (with_reducible refine LeO.bind ?_ (fun _ => ?_))
      | exact ih0 _ _
      | exact LeO.none _
      | refine LeO.ite ?_ ?_
      | refine LeO.bind ?_ (fun _ => ?_)
theorem colophonref07_digit.mono : ∀ a0 k, LeO (colophonref07_digit.f k a0) (colophonref07_digit.f (k + 1) a0) := by
  intro a0 k
  have ih0 := colophonref07_digit.mono_l k
  unfold colophonref07_digit.f
  repeat' first
      | (with_reducible exact ih0 _ _)
      | (with_reducible exact LeO.refl _)
      | (with_reducible exact LeO.none _)
      | (with_reducible refine LeO.ite ?_ ?_)
      | (with_reducible refine LeO.bind ?_ (fun _ => ?_))
      | exact ih0 _ _
      | exact LeO.none _
      | refine LeO.ite ?_ ?_
      | refine LeO.bind ?_ (fun _ => ?_)
set_option maxHeartbeats 8000000 in
set_option maxRecDepth 100000 in
theorem colophonref07_digit.calls (k : Nat) (a0 : Int) (r : Int) (w : World) (h : colophonref07_digit.f k a0 = some r) :
    Calls Tryd.prog 102 #[.int .u8 a0] w fun e w' => e = .returned (.int .i64 r) ∧ Drawn0 w w' := by
  have H : (if a0 ≥ 48 then (colophonref07_digit.j0 k a0 (decide (a0 ≤ 57))) else (colophonref07_digit.j0 k a0 false)) = some r := h
  clear h
  have HC2 := Aside0.mk H
  clear H
  go_enter Tryd.func102, Tryd.ntmps102
  go_upto_region 1 with (fail)
  go_cut [8] (fun v8 wc => ∃ (kq : Nat) (x8_1 : Bool), v8 = .bool x8_1 ∧ Aside0 (colophonref07_digit.j0 kq a0 x8_1 = some r) ∧ Aside0 (kq ≤ k) ∧ Drawn0 w wc)
  case first =>
    have H := HC2.out
    clear HC2
    by_cases c3 : a0 ≥ 48
    · rw [if_pos c3] at H
      have c3b0 : decide (48 ≤ a0) = true := decide_eq_true c3
      clear c3
      (first | rw [c3b0] | (simp only [i64_w, i32_w]; rw [c3b0]) | skip)
      have H' := Aside0.mk H
      clear H
      go_wp2
      go_meet
      case rel => exact ⟨_, (decide (a0 ≤ 57)), (by first | rfl | (simp; done) | (simp [*]; done)), H', ⟨by first | omega | exact Nat.le_refl _⟩, by repeat (first | exact Drawn0.refl _ | apply Drawn0.step)⟩
    · rw [if_neg c3] at H
      have c3b0 : decide (48 ≤ a0) = false := decide_eq_false c3
      clear c3
      (first | rw [c3b0] | (simp only [i64_w, i32_w]; rw [c3b0]) | skip)
      have H' := Aside0.mk H
      clear H
      go_wp2
      go_meet
      case rel => exact ⟨_, (false), (by first | rfl | (simp; done) | (simp [*]; done)), H', ⟨by first | omega | exact Nat.le_refl _⟩, by repeat (first | exact Drawn0.refl _ | apply Drawn0.step)⟩
  case rest =>
    clear HC2
    try clear c1
    try clear p2
    try clear c3
    try clear c3b0
    obtain ⟨kq, x8_1, rfl, HA, HJ1, ⟨mc1, rfl⟩⟩ := hcut
    cases kq with
    | zero => exact absurd HA.out (by simp [colophonref07_digit.j0])
    | succ kj1 =>
      have H := HA.out
      clear HA
      simp only [colophonref07_digit.j0] at H
      by_cases c4 : x8_1 = true
      · subst c4
        have H1 : (some ((a0 - 48) % 256)) = some r := by rw [if_pos rfl] at H; exact H
        clear H
        have H := H1
        clear H1
        obtain rfl := Option.some.inj H
        go_wp2
        go_ret
        exact ⟨by first | rfl | (simp; done) | (simp [*]; done), by repeat (first | exact Drawn0.refl _ | apply Drawn0.step)⟩
      · replace c4 := Bool.eq_false_iff.mpr c4
        subst c4
        have H1 : (if a0 ≥ 97 then (if a0 ≤ 102 then (some (((a0 - 97) % 256) + 10)) else (some 16)) else (some 16)) = some r := by rw [if_neg (show ¬ (false = true) by decide)] at H; exact H
        clear H
        have H := H1
        clear H1
        by_cases c5 : a0 ≥ 97
        · rw [if_pos c5] at H
          have c5b0 : decide (97 ≤ a0) = true := decide_eq_true c5
          clear c5
          by_cases c6 : a0 ≤ 102
          · rw [if_pos c6] at H
            have c6b0 : decide (a0 ≤ 102) = true := decide_eq_true c6
            clear c6
            obtain rfl := Option.some.inj H
            go_wp2
            go_ret
            exact ⟨by first | rfl | (simp; done) | (simp [*]; done), by repeat (first | exact Drawn0.refl _ | apply Drawn0.step)⟩
          · rw [if_neg c6] at H
            have c6b0 : decide (a0 ≤ 102) = false := decide_eq_false c6
            clear c6
            obtain rfl := Option.some.inj H
            go_wp2
            go_ret
            exact ⟨by first | rfl | (simp; done) | (simp [*]; done), by repeat (first | exact Drawn0.refl _ | apply Drawn0.step)⟩
        · rw [if_neg c5] at H
          have c5b0 : decide (97 ≤ a0) = false := decide_eq_false c5
          clear c5
          obtain rfl := Option.some.inj H
          go_wp2
          go_ret
          exact ⟨by first | rfl | (simp; done) | (simp [*]; done), by repeat (first | exact Drawn0.refl _ | apply Drawn0.step)⟩

end Go.Proofs.YtbdilejhbeffjaaDoor.PDoc
