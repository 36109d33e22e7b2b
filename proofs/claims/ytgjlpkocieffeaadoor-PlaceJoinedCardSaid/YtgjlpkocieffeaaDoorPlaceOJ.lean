/- place.Start and place.Of tell the places of a text. Condition: at most 2^44 bytes. -/
import Derived.Test.YtgjlpkocieffeaaDoorPlaceA
namespace Go.Proofs.YtgjlpkocieffeaaDoor
open Go.RowKit Go.Lib
theorem advV_shape (a l c : Int) (s : ByteArray) : ∃ A L C, Hid (advV a l c s = .agg #[.int .i64 A, .int .i64 L, .int .i64 C]) := ⟨_, _, _, Lib.hid rfl⟩
theorem w1_one : wrap64 1 = 1 := by unfold wrap64; omega
def startV : Value := .agg #[.int .i64 0, .int .i64 1, .int .i64 1]
theorem place_Start (w : World) : Calls Tryd.prog 13 #[] w fun e w' => e = .returned startV ∧ Below w.heap.size w w' := by
  go_enter Tryd.func13, Tryd.ntmps13
  go_wp2
  exact bodyPost_ret (v := startV) (by simp [results, Tryd.results13, go_sem, startV]) rfl ⟨rfl, (Below.refl _ _).alloc (Nat.le_refl _) _⟩
set_option maxHeartbeats 1000000 in
theorem place_Of (s : ByteArray) (k : Nat) (w : World) (hs : s.size * 8 ≤ 140737488351232) (hk : k ≤ s.size) :
    Calls Tryd.prog 12 #[.string s, .int .i64 k] w fun e w' => e = .returned (.tuple #[advV 0 1 1 (s.extract 0 k), .int .i64 0]) ∧ Below w.heap.size w w' := by
  have hx : (s.extract 0 k).size * 8 ≤ 140737488351232 := by simp; omega
  have hR : Blk (w.alloc (.cells #[.int .i64 0, .int .i64 0, .int .i64 0] 23)) w.heap.size #[.int .i64 0, .int .i64 0, .int .i64 0] 23 := Blk.new _ _ _
  have hb0 : Below w.heap.size w (w.alloc (.cells #[.int .i64 0, .int .i64 0, .int .i64 0] 23)) := (Below.refl _ _).alloc (Nat.le_refl _) _
  obtain ⟨A, L, C, hV⟩ := advV_shape 0 1 1 (s.extract 0 k)
  go_enter Tryd.func12, Tryd.ntmps12
  go_wp2
  obtain ⟨W, hW⟩ : ∃ W, w.alloc (.cells #[.int .i64 0, .int .i64 0, .int .i64 0] 23) = W := ⟨_, rfl⟩
  rw [hW] at hR hb0 ⊢
  clear hW
  go_region_with (first | (go_at_call 13; refine (place_Start _).mono ?_; rintro e w1 ⟨rfl, hb⟩; replace hR := (by first | exact hR.below' hb | exact hR.drew.below' hb); replace hb0 := (by first | exact hb0.trans (hb.mono hb0.size) | exact hb0.drew.trans (hb.mono hb0.size)); unfold startV) | (go_at_call 5; refine (place_Advance 0 1 1 _ _ (by omega)).mono ?_; rintro e w1 ⟨rfl, hb⟩; replace hR := (by first | exact hR.below' hb | exact hR.drew.below' hb); replace hb0 := (by first | exact hb0.trans (hb.mono hb0.size) | exact hb0.drew.trans (hb.mono hb0.size)); rw [hV.out]; have r0 := hR.cell 0; have r1 := hR.cell 1; have r2 := hR.cell 2; have rf := hR.frozen 0; have rf1 := hR.frozen 1; have rf2 := hR.frozen 2; simp at r0 r1 r2))
  all_goals
    go_wp2
    refine bodyPost_ret (v := .tuple #[.agg #[.int .i64 A, .int .i64 L, .int .i64 C], .int .i64 0]) ?_ rfl ⟨by rw [hV.out], ?_⟩
    · have hF := ((hR.set 0 (.int .i64 A)).set 1 (.int .i64 L)).set 2 (.int .i64 C)
      have q0 := hF.cell 0; have q1 := hF.cell 1; have q2 := hF.cell 2
      simp at q0 q1 q2
      simp [results, Tryd.results12, go_sem, q0, q1, q2]
    · exact ((hb0.setCell (p := ⟨w.heap.size, 0, none⟩) (by simp) _).setCell (p := ⟨w.heap.size, 1, none⟩) (by simp) _).setCell (p := ⟨w.heap.size, 2, none⟩) (by simp) _
theorem place_Of_no (s : ByteArray) (k : Int) (w : World) (hk : k < 0 ∨ s.size < k) :
    Calls Tryd.prog 12 #[.string s, .int .i64 k] w fun e w' => e = .returned (.tuple #[.agg #[.int .i64 0, .int .i64 0, .int .i64 0], .int .i64 1]) ∧ Below w.heap.size w w' := by
  by_cases h : k < 0
  all_goals
    go_enter Tryd.func12, Tryd.ntmps12
    go_wp2
    exact bodyPost_ret (v := .tuple #[.agg #[.int .i64 0, .int .i64 0, .int .i64 0], .int .i64 1]) (by simp [results, Tryd.results12, go_sem]) rfl ⟨rfl, (Below.refl _ _).alloc (Nat.le_refl _) _⟩
end Go.Proofs.YtgjlpkocieffeaaDoor
