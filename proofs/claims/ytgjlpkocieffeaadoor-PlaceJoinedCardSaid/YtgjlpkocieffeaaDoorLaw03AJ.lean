/- The examples of layer 3 hold (colophonlaw03.awake). No condition. -/
import Derived.Test.YtgjlpkocieffeaaDoorPlaceL
import Derived.Test.YtgjlpkocieffeaaDoorPlaceOJ
import Derived.Laws.StructEq
import Derived.KernelRfl
namespace Go.Proofs.YtgjlpkocieffeaaDoor
open Go.RowKit Go.Lib
theorem ex1 : lineV [97, 10, 98] 2 = .tuple #[.string ⟨#[98]⟩, .bool true] := by rfl
theorem ex2 : advV 0 1 1 ⟨#[97, 10, 195, 169, 98]⟩ = .agg #[.int .i64 5, .int .i64 2, .int .i64 3] := by
  unfold advV tailC; rw [cnt_F 5 _ (by decide)]; kernel_rfl
theorem ex3 : advV 0 1 1 (ByteArray.extract ⟨#[195, 169, 97]⟩ 0 2) = .agg #[.int .i64 2, .int .i64 1, .int .i64 2] := by
  unfold advV tailC; rw [cnt_F 5 _ (by decide)]; kernel_rfl
set_option maxHeartbeats 1000000 in
theorem law_awake (w : World) : Calls Tryd.prog 6 #[] w fun e w' => e = .returned (.bool true) ∧ Below w.heap.size w w' := by
  have hb0 := Below.refl w.heap.size w
  have c1 : ∀ W, Calls Tryd.prog 11 #[.string ⟨#[97, 10, 98]⟩, .int .i64 2] W fun e w' => e = .returned (.tuple #[.string ⟨#[98]⟩, .bool true]) ∧ Below W.heap.size W w' := fun W => by
    have := place_Line ⟨#[97, 10, 98]⟩ 2 W (by decide) (by unfold wrap64; omega); rwa [show (⟨#[97, 10, 98]⟩ : ByteArray).data.toList = [97, 10, 98] from rfl, ex1] at this
  have c2 : ∀ W, Calls Tryd.prog 12 #[.string ⟨#[195, 169, 97]⟩, .int .i64 2] W fun e w' => e = .returned (.tuple #[.agg #[.int .i64 2, .int .i64 1, .int .i64 2], .int .i64 0]) ∧ Below W.heap.size W w' := fun W => by
    have := place_Of ⟨#[195, 169, 97]⟩ 2 W (by decide) (by decide); rwa [ex3] at this
  have c3 : ∀ W, Calls Tryd.prog 5 #[startV, .string ⟨#[97, 10, 195, 169, 98]⟩] W fun e w' => e = .returned (.agg #[.int .i64 5, .int .i64 2, .int .i64 3]) ∧ Below W.heap.size W w' := fun W => by
    have := place_Advance 0 1 1 ⟨#[97, 10, 195, 169, 98]⟩ W (by decide); rwa [ex2] at this
  unfold startV at c3
  have c1 := Lib.hid c1
  have c2 := Lib.hid c2
  have c3 := Lib.hid c3
  go_enter Tryd.func6, Tryd.ntmps6
  go_wp2_with fail
  refine (c1.out _).mono ?_
  rintro e w1 ⟨rfl, h1⟩
  go_wp2_with fail
  refine (c2.out _).mono ?_
  rintro e w2 ⟨rfl, h2⟩
  go_wp2_with fail
  refine (place_Start _).mono ?_
  rintro e w3 ⟨rfl, h3⟩
  have hs2 := h2.size
  have hs1 := h1.size
  have bb2 : Below w.heap.size w w2 := h1.trans (h2.mono h1.size)
  have bb3 : Below w.heap.size w w3 := (bb2.alloc (by omega) _).trans (h3.mono (by simp; omega))
  have p3 := (Blk.new w2 #[.int .i64 2, .int .i64 1, .int .i64 2] 23).below' h3
  have hs3 := h3.size
  rw [World.size_alloc] at hs3
  unfold startV
  go_wp2_with fail
  refine (place_Start _).mono ?_
  rintro e w4 ⟨rfl, h4⟩
  have p4 := p3.below' h4
  have bb4 : Below w.heap.size w w4 := bb3.trans (h4.mono bb3.size)
  unfold startV
  go_wp2_with fail
  refine (c3.out _).mono ?_
  rintro e w5 ⟨rfl, h5⟩
  have p5 := p4.below' h5
  have bb5 : Below w.heap.size w w5 := bb4.trans (h5.mono bb4.size)
  have q0 := p5.cell 0; have q1 := p5.cell 1; have q2 := p5.cell 2
  simp at q0 q1 q2
  go_wp2
  go_ret
  exact ⟨rfl, bb5⟩

end Go.Proofs.YtgjlpkocieffeaaDoor
