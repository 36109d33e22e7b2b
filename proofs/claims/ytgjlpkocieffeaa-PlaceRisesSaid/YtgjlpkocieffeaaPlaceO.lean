/- place.Start, place.Of and the reference's tell the places of a text. Condition: at most 2^44 bytes. -/
import Derived.Test.YtgjlpkocieffeaaPlaceA
import Derived.Test.YtgjlpkocieffeaaRef03
namespace Go.Proofs.Ytgjlpkocieffeaa
open Go.RowKit Go.Lib
theorem advV_shape (a l c : Int) (s : ByteArray) : ∃ A L C, Hid (advV a l c s = .agg #[.int .i64 A, .int .i64 L, .int .i64 C]) := ⟨_, _, _, Lib.hid rfl⟩
theorem w1_one : wrap64 1 = 1 := by unfold wrap64; omega
def startV : Value := .agg #[.int .i64 0, .int .i64 1, .int .i64 1]
theorem place_Start (w : World) : Calls Try.prog 16 #[] w fun e w' => e = .returned startV ∧ Below w.heap.size w w' := by
  go_enter Try.func16, Try.ntmps16
  go_wp2
  exact bodyPost_ret (v := startV) (by simp [results, Try.results16, go_sem, startV]) rfl ⟨rfl, (Below.refl _ _).alloc (Nat.le_refl _) _⟩
theorem r3_Start (w : World) : Calls Try.prog 19 #[] w fun e w' => e = .returned startV ∧ Below w.heap.size w w' := by
  go_enter Try.func19, Try.ntmps19
  go_wp2
  exact bodyPost_ret (v := startV) (by simp [results, Try.results19, go_sem, startV]) rfl ⟨rfl, (Below.refl _ _).alloc (Nat.le_refl _) _⟩
set_option maxHeartbeats 1000000 in
theorem place_Of (s : ByteArray) (k : Nat) (w : World) (hs : s.size * 8 ≤ 140737488351232) (hk : k ≤ s.size) :
    Calls Try.prog 8 #[.string s, .int .i64 k] w fun e w' => e = .returned (.tuple #[advV 0 1 1 (s.extract 0 k), .int .i64 0]) ∧ Below w.heap.size w w' := by
  have hx : (s.extract 0 k).size * 8 ≤ 140737488351232 := by simp; omega
  have hR : Blk (w.alloc (.cells #[.int .i64 0, .int .i64 0, .int .i64 0] 24)) w.heap.size #[.int .i64 0, .int .i64 0, .int .i64 0] 24 := Blk.new _ _ _
  have hb0 : Below w.heap.size w (w.alloc (.cells #[.int .i64 0, .int .i64 0, .int .i64 0] 24)) := (Below.refl _ _).alloc (Nat.le_refl _) _
  obtain ⟨A, L, C, hV⟩ := advV_shape 0 1 1 (s.extract 0 k)
  go_enter Try.func8, Try.ntmps8
  go_wp2
  obtain ⟨W, hW⟩ : ∃ W, w.alloc (.cells #[.int .i64 0, .int .i64 0, .int .i64 0] 24) = W := ⟨_, rfl⟩
  rw [hW] at hR hb0 ⊢
  clear hW
  go_region_with (first | (go_at_call 16; refine (place_Start _).mono ?_; rintro e w1 ⟨rfl, hb⟩; replace hR := (by first | exact hR.below' hb | exact hR.drew.below' hb); replace hb0 := (by first | exact hb0.trans (hb.mono hb0.size) | exact hb0.drew.trans (hb.mono hb0.size)); unfold startV) | (go_at_call 12; refine (place_Advance 0 1 1 _ _ (by omega)).mono ?_; rintro e w1 ⟨rfl, hb⟩; replace hR := (by first | exact hR.below' hb | exact hR.drew.below' hb); replace hb0 := (by first | exact hb0.trans (hb.mono hb0.size) | exact hb0.drew.trans (hb.mono hb0.size)); rw [hV.out]; have r0 := hR.cell 0; have r1 := hR.cell 1; have r2 := hR.cell 2; have rf := hR.frozen 0; have rf1 := hR.frozen 1; have rf2 := hR.frozen 2; simp at r0 r1 r2))
  all_goals
    go_wp2
    refine bodyPost_ret (v := .tuple #[.agg #[.int .i64 A, .int .i64 L, .int .i64 C], .int .i64 0]) ?_ rfl ⟨by rw [hV.out], ?_⟩
    · have hF := ((hR.set 0 (.int .i64 A)).set 1 (.int .i64 L)).set 2 (.int .i64 C)
      have q0 := hF.cell 0; have q1 := hF.cell 1; have q2 := hF.cell 2
      simp at q0 q1 q2
      simp [results, Try.results8, go_sem, q0, q1, q2]
    · exact ((hb0.setCell (p := ⟨w.heap.size, 0, none⟩) (by simp) _).setCell (p := ⟨w.heap.size, 1, none⟩) (by simp) _).setCell (p := ⟨w.heap.size, 2, none⟩) (by simp) _
theorem place_Of_no (s : ByteArray) (k : Int) (w : World) (hk : k < 0 ∨ s.size < k) :
    Calls Try.prog 8 #[.string s, .int .i64 k] w fun e w' => e = .returned (.tuple #[.agg #[.int .i64 0, .int .i64 0, .int .i64 0], .int .i64 1]) ∧ Below w.heap.size w w' := by
  by_cases h : k < 0
  all_goals
    go_enter Try.func8, Try.ntmps8
    go_wp2
    exact bodyPost_ret (v := .tuple #[.agg #[.int .i64 0, .int .i64 0, .int .i64 0], .int .i64 1]) (by simp [results, Try.results8, go_sem]) rfl ⟨rfl, (Below.refl _ _).alloc (Nat.le_refl _) _⟩
set_option maxHeartbeats 1000000 in
theorem r3_Of (s : ByteArray) (k : Nat) (w : World) (hs : s.size * 8 ≤ 140737488351232) (hk : k ≤ s.size) :
    Calls Try.prog 9 #[.string s, .int .i64 k] w fun e w' => e = .returned (.tuple #[advV 0 1 1 (s.extract 0 k), .int .i64 0]) ∧ Below w.heap.size w w' := by
  have hx : (s.extract 0 k).size * 8 ≤ 140737488351232 := by simp; omega
  have hR : Blk (w.alloc (.cells #[.int .i64 0, .int .i64 0, .int .i64 0] 24)) w.heap.size #[.int .i64 0, .int .i64 0, .int .i64 0] 24 := Blk.new _ _ _
  have hb0 : Below w.heap.size w (w.alloc (.cells #[.int .i64 0, .int .i64 0, .int .i64 0] 24)) := (Below.refl _ _).alloc (Nat.le_refl _) _
  obtain ⟨A, L, C, hV⟩ := advV_shape 0 1 1 (s.extract 0 k)
  go_enter Try.func9, Try.ntmps9
  go_wp2
  obtain ⟨W, hW⟩ : ∃ W, w.alloc (.cells #[.int .i64 0, .int .i64 0, .int .i64 0] 24) = W := ⟨_, rfl⟩
  rw [hW] at hR hb0 ⊢
  clear hW
  go_region_with (first | (go_at_call 19; refine (r3_Start _).mono ?_; rintro e w1 ⟨rfl, hb⟩; replace hR := (by first | exact hR.below' hb | exact hR.drew.below' hb); replace hb0 := (by first | exact hb0.trans (hb.mono hb0.size) | exact hb0.drew.trans (hb.mono hb0.size)); unfold startV) | (go_at_call 13; refine (r3_Advance 0 1 1 _ _ hx w1_one w1_one).mono ?_; rintro e w1 ⟨rfl, hb⟩; replace hR := (by first | exact hR.below' hb | exact hR.drew.below' hb); replace hb0 := (by first | exact hb0.trans (hb.mono hb0.size) | exact hb0.drew.trans (hb.mono hb0.size)); rw [hV.out]; have r0 := hR.cell 0; have r1 := hR.cell 1; have r2 := hR.cell 2; have rf := hR.frozen 0; have rf1 := hR.frozen 1; have rf2 := hR.frozen 2; simp at r0 r1 r2))
  all_goals
    go_wp2
    refine bodyPost_ret (v := .tuple #[.agg #[.int .i64 A, .int .i64 L, .int .i64 C], .int .i64 0]) ?_ rfl ⟨by rw [hV.out], ?_⟩
    · have hF := ((hR.set 0 (.int .i64 A)).set 1 (.int .i64 L)).set 2 (.int .i64 C)
      have q0 := hF.cell 0; have q1 := hF.cell 1; have q2 := hF.cell 2
      simp at q0 q1 q2
      simp [results, Try.results9, go_sem, q0, q1, q2]
    · exact ((hb0.setCell (p := ⟨w.heap.size, 0, none⟩) (by simp) _).setCell (p := ⟨w.heap.size, 1, none⟩) (by simp) _).setCell (p := ⟨w.heap.size, 2, none⟩) (by simp) _
theorem r3_Of_no (s : ByteArray) (k : Int) (w : World) (hk : k < 0 ∨ s.size < k) :
    Calls Try.prog 9 #[.string s, .int .i64 k] w fun e w' => e = .returned (.tuple #[.agg #[.int .i64 0, .int .i64 0, .int .i64 0], .int .i64 1]) ∧ Below w.heap.size w w' := by
  by_cases h : k < 0
  all_goals
    go_enter Try.func9, Try.ntmps9
    go_wp2
    exact bodyPost_ret (v := .tuple #[.agg #[.int .i64 0, .int .i64 0, .int .i64 0], .int .i64 1]) (by simp [results, Try.results9, go_sem]) rfl ⟨rfl, (Below.refl _ _).alloc (Nat.le_refl _) _⟩

end Go.Proofs.Ytgjlpkocieffeaa
