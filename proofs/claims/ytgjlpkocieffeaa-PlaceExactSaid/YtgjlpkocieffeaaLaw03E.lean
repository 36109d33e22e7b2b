/- colophonlaw03.PlaceExact returns true, for every place, text and number (the walk). No condition but that numbers are of 64 bits. -/
import Derived.Test.YtgjlpkocieffeaaLaw03A
namespace Go.Proofs.Ytgjlpkocieffeaa
open Go.RowKit Go.Lib
set_option maxHeartbeats 2000000 in
theorem law_Exact (a l c : Int) (s : ByteArray) (k n : Int) (w : World) (hl : wrap64 l = l) (hc : wrap64 c = c) (hn : wrap64 n = n) :
    Calls Try.prog 5 #[.agg #[.int .i64 a, .int .i64 l, .int .i64 c], .string s, .int .i64 k, .int .i64 n] w fun e w' => e = .returned (.bool true) ∧ Below w.heap.size w w' := by
  have hl := Lib.hid hl
  have hc := Lib.hid hc
  have hn := Lib.hid hn
  by_cases hs : (2147483647 : Int) < s.size
  · go_enter Try.func5, Try.ntmps5
    go_wp2
    go_ret
    exact ⟨rfl, (Below.refl _ _).alloc (Nat.le_refl _) _⟩
  have hOf : ∃ A L C E, (∀ W, Calls Try.prog 8 #[.string s, .int .i64 k] W fun e w' => e = .returned (.tuple #[.agg #[.int .i64 A, .int .i64 L, .int .i64 C], .int .i64 E]) ∧ Below W.heap.size W w') ∧ (∀ W, Calls Try.prog 9 #[.string s, .int .i64 k] W fun e w' => e = .returned (.tuple #[.agg #[.int .i64 A, .int .i64 L, .int .i64 C], .int .i64 E]) ∧ Below W.heap.size W w') := by
    by_cases hk : 0 ≤ k ∧ k ≤ s.size
    · obtain ⟨j, rfl⟩ := Int.eq_ofNat_of_zero_le hk.1
      obtain ⟨A, L, C, hV⟩ := advV_shape 0 1 1 (s.extract 0 j)
      exact ⟨A, L, C, 0, fun W => by rw [← hV.out]; exact place_Of s j W (by omega) (by omega), fun W => by rw [← hV.out]; exact r3_Of s j W (by omega) (by omega)⟩
    · exact ⟨0, 0, 0, 1, fun W => place_Of_no s k W (by omega), fun W => r3_Of_no s k W (by omega)⟩
  obtain ⟨A, L, C, E, o1, o2⟩ := hOf
  have hLn : ∃ x b, (∀ W, Calls Try.prog 10 #[.string s, .int .i64 n] W fun e w' => e = .returned (.tuple #[.string x, .bool b]) ∧ Below W.heap.size W w') ∧ (∀ W, Calls Try.prog 11 #[.string s, .int .i64 n] W fun e w' => e = .returned (.tuple #[.string x, .bool b]) ∧ W = w') := by
    obtain ⟨x, b, hv⟩ : ∃ x b, lineV s.data.toList n = .tuple #[.string x, .bool b] := by unfold lineV; split <;> exact ⟨_, _, rfl⟩
    exact ⟨x, b, fun W => by rw [← hv]; exact place_Line s n W (by omega) hn.out, fun W => by rw [← hv]; exact r3_Line s n W (by omega)⟩
  obtain ⟨x, b, n1, n2⟩ := hLn
  obtain ⟨A2, L2, C2, hV⟩ := advV_shape a l c s
  have a1 : ∀ W, Calls Try.prog 12 #[.agg #[.int .i64 a, .int .i64 l, .int .i64 c], .string s] W fun e w' => e = .returned (.agg #[.int .i64 A2, .int .i64 L2, .int .i64 C2]) ∧ Below W.heap.size W w' := fun W => by
    rw [← hV.out]; exact place_Advance a l c s W (by omega)
  have a2 : ∀ W, Calls Try.prog 13 #[.agg #[.int .i64 a, .int .i64 l, .int .i64 c], .string s] W fun e w' => e = .returned (.agg #[.int .i64 A2, .int .i64 L2, .int .i64 C2]) ∧ Below W.heap.size W w' := fun W => by
    rw [← hV.out]; exact r3_Advance a l c s W (by omega) hl.out hc.out
  have o1 := Lib.hid o1; have o2 := Lib.hid o2; have n1 := Lib.hid n1; have n2 := Lib.hid n2; have a1 := Lib.hid a1; have a2 := Lib.hid a2
  go_enter Try.func5, Try.ntmps5
  go_wp2_with fail
  refine (o1.out _).mono ?_
  rintro e w1 ⟨rfl, h1⟩
  have hz1 := h1.size; rw [World.size_alloc] at hz1
  have bb1 : Below w.heap.size w w1 := ((Below.refl _ _).alloc (Nat.le_refl _) _).trans (h1.mono (by simp))
  have p1 := (Blk.new w #[.int .i64 a, .int .i64 l, .int .i64 c] 24).below' h1
  go_wp2_with fail
  refine (o2.out _).mono ?_
  rintro e w2 ⟨rfl, h2⟩
  have hz2 := h2.size; rw [World.size_alloc] at hz2
  have bb2 : Below w.heap.size w w2 := (bb1.alloc (by omega) _).trans (h2.mono (by simp; omega))
  have p2 := (p1.alloc _).below' h2
  have q2 := (Blk.new w1 #[.int .i64 A, .int .i64 L, .int .i64 C] 24).below' h2
  go_wp2_with fail
  refine (n1.out _).mono ?_
  rintro e w3 ⟨rfl, h3⟩
  have hz3 := h3.size; rw [World.size_alloc] at hz3
  have bb3 : Below w.heap.size w w3 := (bb2.alloc (by omega) _).trans (h3.mono (by simp; omega))
  have p3 := (p2.alloc _).below' h3
  have q3 := (q2.alloc _).below' h3
  have r3 := (Blk.new w2 #[.int .i64 A, .int .i64 L, .int .i64 C] 24).below' h3
  go_wp2_with fail
  refine (n2.out _).mono ?_
  rintro e w4 ⟨rfl, rfl⟩
  go_wp2_with fail
  have cp0 := p3.cell 0
  have cp1 := p3.cell 1
  have cp2 := p3.cell 2
  have cq0 := q3.cell 0
  have cq1 := q3.cell 1
  have cq2 := q3.cell 2
  have cr0 := r3.cell 0
  have cr1 := r3.cell 1
  have cr2 := r3.cell 2
  simp at cp0 cp1 cp2 cq0 cq1 cq2 cr0 cr1 cr2
  go_region_held3 (fun w' => w'.cell? ⟨w.heap.size, 0, none⟩ = some (.int .i64 a) ∧ w'.cell? ⟨w.heap.size, 1, none⟩ = some (.int .i64 l) ∧ w'.cell? ⟨w.heap.size, 2, none⟩ = some (.int .i64 c) ∧ w'.cell? ⟨w1.heap.size, 0, none⟩ = some (.int .i64 A) ∧ w'.cell? ⟨w1.heap.size, 1, none⟩ = some (.int .i64 L) ∧ w'.cell? ⟨w1.heap.size, 2, none⟩ = some (.int .i64 C) ∧ w'.cell? ⟨w2.heap.size, 0, none⟩ = some (.int .i64 A) ∧ w'.cell? ⟨w2.heap.size, 1, none⟩ = some (.int .i64 L) ∧ w'.cell? ⟨w2.heap.size, 2, none⟩ = some (.int .i64 C)) (first | exact ⟨cp0, cp1, cp2, cq0, cq1, cq2, cr0, cr1, cr2⟩ | go_keep)
    (first | (go_at_call 12; refine (a1.out _).mono ?_; rintro e wn ⟨rfl, hb⟩; replace p3 := (by first | exact p3.below' hb | exact p3.drew.below' hb); replace q3 := (by first | exact q3.below' hb | exact q3.drew.below' hb); replace r3 := (by first | exact r3.below' hb | exact r3.drew.below' hb); replace bb3 := (by first | exact bb3.trans (hb.mono bb3.size) | exact bb3.drew.trans (hb.mono bb3.size)); replace cp0 := p3.cell 0; replace cp1 := p3.cell 1; replace cp2 := p3.cell 2; replace cq0 := q3.cell 0; replace cq1 := q3.cell 1; replace cq2 := q3.cell 2; replace cr0 := r3.cell 0; replace cr1 := r3.cell 1; replace cr2 := r3.cell 2; simp at cp0 cp1 cp2 cq0 cq1 cq2 cr0 cr1 cr2) | (go_at_call 13; refine (a2.out _).mono ?_; rintro e wn ⟨rfl, hb⟩; replace p3 := (by first | exact p3.below' hb | exact p3.drew.below' hb); replace q3 := (by first | exact q3.below' hb | exact q3.drew.below' hb); replace r3 := (by first | exact r3.below' hb | exact r3.drew.below' hb); replace bb3 := (by first | exact bb3.trans (hb.mono bb3.size) | exact bb3.drew.trans (hb.mono bb3.size)); replace cp0 := p3.cell 0; replace cp1 := p3.cell 1; replace cp2 := p3.cell 2; replace cq0 := q3.cell 0; replace cq1 := q3.cell 1; replace cq2 := q3.cell 2; replace cr0 := r3.cell 0; replace cr1 := r3.cell 1; replace cr2 := r3.cell 2; simp at cp0 cp1 cp2 cq0 cq1 cq2 cr0 cr1 cr2) | (go_at_call 14; refine (law_awake _).mono ?_; rintro e wn ⟨rfl, hb⟩; replace p3 := (by first | exact p3.below' hb | exact p3.drew.below' hb); replace q3 := (by first | exact q3.below' hb | exact q3.drew.below' hb); replace r3 := (by first | exact r3.below' hb | exact r3.drew.below' hb); replace bb3 := (by first | exact bb3.trans (hb.mono bb3.size) | exact bb3.drew.trans (hb.mono bb3.size)); replace cp0 := p3.cell 0; replace cp1 := p3.cell 1; replace cp2 := p3.cell 2; replace cq0 := q3.cell 0; replace cq1 := q3.cell 1; replace cq2 := q3.cell 2; replace cr0 := r3.cell 0; replace cr1 := r3.cell 1; replace cr2 := r3.cell 2; simp at cp0 cp1 cp2 cq0 cq1 cq2 cr0 cr1 cr2))
  all_goals go_wp2
  all_goals go_ret
  all_goals exact ⟨rfl, bb3⟩

end Go.Proofs.Ytgjlpkocieffeaa
