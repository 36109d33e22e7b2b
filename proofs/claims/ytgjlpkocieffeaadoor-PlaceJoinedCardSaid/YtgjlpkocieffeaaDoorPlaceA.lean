/- place.Advance tells the place behind a text. Condition: the text is shorter than 2^62 bytes. -/
import Derived.Test.YtgjlpkocieffeaaDoorPos
import Derived.Test.YtgjlpkocieffeaaDoorHeap
import Derived.Test.YtgjlpkocieffeaaDoorChar
import Derived.Test.YtgjlpkocieffeaaDoorShelf
namespace Go.Proofs.YtgjlpkocieffeaaDoor
open Go.RowKit Go.Lib
set_option maxHeartbeats 1000000 in
theorem place_Advance (a l c : Int) (s : ByteArray) (w : World) (hs : s.size < 4611686018427387904) :
    Calls Tryd.prog 5 #[.agg #[.int .i64 a, .int .i64 l, .int .i64 c], .string s] w fun e w' => e = .returned (advV a l c s) ∧ Below w.heap.size w w' := by
  have hcn := Lib.hid (countByte_nl s)
  have hln := Lib.hid (last_from' s)
  have hfr := fromAt_le s s.size
  have hCnt : ∀ W, Calls Tryd.prog 8 #[.string s, .string ⟨#[10]⟩] W fun e w' => e = .returned (.int .i64 (nlAt s s.size)) ∧ W = w' := fun W => by
    rw [← hcn.out]; exact (Tryd.strings_Count_one s 10 W).mono fun e w' ⟨h1, h2⟩ => ⟨h1, h2.symm⟩
  obtain ⟨z, hz⟩ : ∃ z : Int, z = (fromAt s s.size : Int) - 1 := ⟨_, rfl⟩
  have hz0 : -1 ≤ z := by omega
  have hz1 : z + 1 ≤ s.size := by omega
  have hz2 : 0 ≤ z + 1 := by omega
  have hzn : Hid ((z + 1).toNat = fromAt s s.size) := by show (z + 1).toNat = _; omega
  have hLst : ∀ W, Calls Tryd.prog 10 #[.string s, .int .u8 10] W fun e w' => e = .returned (.int .i64 z) ∧ W = w' := fun W => by
    rw [hz, ← hln.out]; exact (Tryd.strings_LastIndexByte s 10 hs W).mono fun e w' ⟨h1, h2⟩ => ⟨h1, h2.symm⟩
  clear hz hfr
  have hCnt := Lib.hid hCnt
  have hLst := Lib.hid hLst
  have hx : (s.extract (z + 1).toNat s.size).size < 4611686018427387904 := by simp; omega
  have fin : ∀ C, C = colI (nlAt s s.size) c → Hid (advV a l c s = .agg #[.int .i64 (wrap64 (a + s.size)), .int .i64 (wrap64 (l + nlAt s s.size)), .int .i64 (wrap64 (C + ↑(cnt (List.take (s.size - (z + 1).toNat) (List.drop (z + 1).toNat s.data.toList)))))]) := fun C hC => by
    rw [hC]; unfold advV tailC; rw [List.take_of_length_le (by rw [List.length_drop, size_len]; exact Nat.le_refl _), hzn.out]; exact Lib.hid rfl
  by_cases h0 : nlAt s s.size = 0
  · have fin := fin c (by unfold colI; rw [if_pos h0])
    have h1 : ((nlAt s s.size : Int) == 0) = true := by simp [h0]
    clear h0
    go_enter Tryd.func5, Tryd.ntmps5
    go_wp2_with (go_at_call 8; refine (hCnt.out _).mono ?_; rintro e w' ⟨rfl, rfl⟩)
    have hB : Blk (((w.alloc (.cells #[.int .i64 a, .int .i64 l, .int .i64 c] 23)).alloc (.cells #[.int .i64 0, .int .i64 0, .int .i64 0] 23)).alloc (.cells #[.int .i64 (wrap64 (a + s.size)), .int .i64 (wrap64 (l + nlAt s s.size)), .int .i64 c] 23)) (w.heap.size + 2) #[.int .i64 (wrap64 (a + s.size)), .int .i64 (wrap64 (l + nlAt s s.size)), .int .i64 c] 23 := by
      have := Blk.new ((w.alloc (.cells #[.int .i64 a, .int .i64 l, .int .i64 c] 23)).alloc (.cells #[.int .i64 0, .int .i64 0, .int .i64 0] 23)) #[.int .i64 (wrap64 (a + s.size)), .int .i64 (wrap64 (l + nlAt s s.size)), .int .i64 c] 23
      rwa [World.size_alloc, World.size_alloc] at this
    have hR : Blk (((w.alloc (.cells #[.int .i64 a, .int .i64 l, .int .i64 c] 23)).alloc (.cells #[.int .i64 0, .int .i64 0, .int .i64 0] 23)).alloc (.cells #[.int .i64 (wrap64 (a + s.size)), .int .i64 (wrap64 (l + nlAt s s.size)), .int .i64 c] 23)) (w.heap.size + 1) #[.int .i64 0, .int .i64 0, .int .i64 0] 23 := by
      have := (Blk.new (w.alloc (.cells #[.int .i64 a, .int .i64 l, .int .i64 c] 23)) #[.int .i64 0, .int .i64 0, .int .i64 0] 23).alloc (.cells #[.int .i64 (wrap64 (a + s.size)), .int .i64 (wrap64 (l + nlAt s s.size)), .int .i64 c] 23)
      rwa [World.size_alloc] at this
    have hb0 : Below w.heap.size w (((w.alloc (.cells #[.int .i64 a, .int .i64 l, .int .i64 c] 23)).alloc (.cells #[.int .i64 0, .int .i64 0, .int .i64 0] 23)).alloc (.cells #[.int .i64 (wrap64 (a + s.size)), .int .i64 (wrap64 (l + nlAt s s.size)), .int .i64 c] 23)) := (((Below.refl _ _).alloc (Nat.le_refl _) _).alloc (by simp) _).alloc (by simp; omega) _
    obtain ⟨W, hW⟩ : ∃ W, ((w.alloc (.cells #[.int .i64 a, .int .i64 l, .int .i64 c] 23)).alloc (.cells #[.int .i64 0, .int .i64 0, .int .i64 0] 23)).alloc (.cells #[.int .i64 (wrap64 (a + s.size)), .int .i64 (wrap64 (l + nlAt s s.size)), .int .i64 c] 23) = W := ⟨_, rfl⟩
    rw [hW] at hB hR hb0 ⊢
    clear hW
    have k0 := hB.cell 0; have k1 := hB.cell 1; have k2 := hB.cell 2; have kf := hB.frozen 2
    simp at k0 k1 k2
    have e1 : IntKind.i64.wrap (z + 1) = z + 1 := IntWalk.i64_in _ (by omega)
    go_region_with (first | (go_at_call 9; refine (char_Count _ _ hx).mono ?_; rintro e w1 ⟨rfl, hb⟩; replace hB := hB.drew.below' hb; replace hR := hR.drew.below' hb; replace hb0 := hb0.drew.trans (hb.mono hb0.size); replace k0 := hB.cell 0; replace k1 := hB.cell 1; replace k2 := hB.cell 2; replace kf := hB.frozen 2; simp at k0 k1 k2) | (go_at_call 10; refine (hLst.out _).mono ?_; rintro e w' ⟨rfl, rfl⟩))
    all_goals
      have r0 := hR.cell 0; have r1 := hR.cell 1; have r2 := hR.cell 2; have rf := hR.frozen 0; have rf1 := hR.frozen 1; have rf2 := hR.frozen 2
      simp at r0 r1 r2
      go_wp2
      refine bodyPost_ret (v := .agg #[.int .i64 (wrap64 (a + s.size)), .int .i64 (wrap64 (l + nlAt s s.size)), .int .i64 (wrap64 (c + ↑(cnt (List.take (s.size - (z + 1).toNat) (List.drop (z + 1).toNat s.data.toList)))))]) ?_ rfl ⟨by rw [fin.out], ?_⟩
      · have hF := (((hR.other ⟨w.heap.size + 2, 2, none⟩ (.int .i64 (wrap64 (c + ↑(cnt (List.take (s.size - (z + 1).toNat) (List.drop (z + 1).toNat s.data.toList)))))) (by simp)).set 0 (.int .i64 (wrap64 (a + s.size)))).set 1 (.int .i64 (wrap64 (l + nlAt s s.size)))).set 2 (.int .i64 (wrap64 (c + ↑(cnt (List.take (s.size - (z + 1).toNat) (List.drop (z + 1).toNat s.data.toList))))))
        have q0 := hF.cell 0; have q1 := hF.cell 1; have q2 := hF.cell 2
        simp at q0 q1 q2
        simp [results, Tryd.results5, go_sem, q0, q1, q2]
      · exact (((hb0.setCell (p := ⟨w.heap.size + 2, 2, none⟩) (by simp) _).setCell (p := ⟨w.heap.size + 1, 0, none⟩) (by simp) _).setCell (p := ⟨w.heap.size + 1, 1, none⟩) (by simp) _).setCell (p := ⟨w.heap.size + 1, 2, none⟩) (by simp) _
  · have fin := fin 1 (by unfold colI; rw [if_neg h0])
    have h1 : ((nlAt s s.size : Int) == 0) = false := by simp; omega
    clear h0
    go_enter Tryd.func5, Tryd.ntmps5
    go_wp2_with (go_at_call 8; refine (hCnt.out _).mono ?_; rintro e w' ⟨rfl, rfl⟩)
    have hB : Blk (((w.alloc (.cells #[.int .i64 a, .int .i64 l, .int .i64 c] 23)).alloc (.cells #[.int .i64 0, .int .i64 0, .int .i64 0] 23)).alloc (.cells #[.int .i64 (wrap64 (a + s.size)), .int .i64 (wrap64 (l + nlAt s s.size)), .int .i64 1] 23)) (w.heap.size + 2) #[.int .i64 (wrap64 (a + s.size)), .int .i64 (wrap64 (l + nlAt s s.size)), .int .i64 1] 23 := by
      have := Blk.new ((w.alloc (.cells #[.int .i64 a, .int .i64 l, .int .i64 c] 23)).alloc (.cells #[.int .i64 0, .int .i64 0, .int .i64 0] 23)) #[.int .i64 (wrap64 (a + s.size)), .int .i64 (wrap64 (l + nlAt s s.size)), .int .i64 1] 23
      rwa [World.size_alloc, World.size_alloc] at this
    have hR : Blk (((w.alloc (.cells #[.int .i64 a, .int .i64 l, .int .i64 c] 23)).alloc (.cells #[.int .i64 0, .int .i64 0, .int .i64 0] 23)).alloc (.cells #[.int .i64 (wrap64 (a + s.size)), .int .i64 (wrap64 (l + nlAt s s.size)), .int .i64 1] 23)) (w.heap.size + 1) #[.int .i64 0, .int .i64 0, .int .i64 0] 23 := by
      have := (Blk.new (w.alloc (.cells #[.int .i64 a, .int .i64 l, .int .i64 c] 23)) #[.int .i64 0, .int .i64 0, .int .i64 0] 23).alloc (.cells #[.int .i64 (wrap64 (a + s.size)), .int .i64 (wrap64 (l + nlAt s s.size)), .int .i64 1] 23)
      rwa [World.size_alloc] at this
    have hb0 : Below w.heap.size w (((w.alloc (.cells #[.int .i64 a, .int .i64 l, .int .i64 c] 23)).alloc (.cells #[.int .i64 0, .int .i64 0, .int .i64 0] 23)).alloc (.cells #[.int .i64 (wrap64 (a + s.size)), .int .i64 (wrap64 (l + nlAt s s.size)), .int .i64 1] 23)) := (((Below.refl _ _).alloc (Nat.le_refl _) _).alloc (by simp) _).alloc (by simp; omega) _
    obtain ⟨W, hW⟩ : ∃ W, ((w.alloc (.cells #[.int .i64 a, .int .i64 l, .int .i64 c] 23)).alloc (.cells #[.int .i64 0, .int .i64 0, .int .i64 0] 23)).alloc (.cells #[.int .i64 (wrap64 (a + s.size)), .int .i64 (wrap64 (l + nlAt s s.size)), .int .i64 1] 23) = W := ⟨_, rfl⟩
    rw [hW] at hB hR hb0 ⊢
    clear hW
    have k0 := hB.cell 0; have k1 := hB.cell 1; have k2 := hB.cell 2; have kf := hB.frozen 2
    simp at k0 k1 k2
    have e1 : IntKind.i64.wrap (z + 1) = z + 1 := IntWalk.i64_in _ (by omega)
    go_region_with (first | (go_at_call 9; refine (char_Count _ _ hx).mono ?_; rintro e w1 ⟨rfl, hb⟩; replace hB := hB.drew.below' hb; replace hR := hR.drew.below' hb; replace hb0 := hb0.drew.trans (hb.mono hb0.size); replace k0 := hB.cell 0; replace k1 := hB.cell 1; replace k2 := hB.cell 2; replace kf := hB.frozen 2; simp at k0 k1 k2) | (go_at_call 10; refine (hLst.out _).mono ?_; rintro e w' ⟨rfl, rfl⟩))
    all_goals
      have r0 := hR.cell 0; have r1 := hR.cell 1; have r2 := hR.cell 2; have rf := hR.frozen 0; have rf1 := hR.frozen 1; have rf2 := hR.frozen 2
      simp at r0 r1 r2
      go_wp2
      refine bodyPost_ret (v := .agg #[.int .i64 (wrap64 (a + s.size)), .int .i64 (wrap64 (l + nlAt s s.size)), .int .i64 (wrap64 (1 + ↑(cnt (List.take (s.size - (z + 1).toNat) (List.drop (z + 1).toNat s.data.toList)))))]) ?_ rfl ⟨by rw [fin.out], ?_⟩
      · have hF := (((hR.other ⟨w.heap.size + 2, 2, none⟩ (.int .i64 (wrap64 (1 + ↑(cnt (List.take (s.size - (z + 1).toNat) (List.drop (z + 1).toNat s.data.toList)))))) (by simp)).set 0 (.int .i64 (wrap64 (a + s.size)))).set 1 (.int .i64 (wrap64 (l + nlAt s s.size)))).set 2 (.int .i64 (wrap64 (1 + ↑(cnt (List.take (s.size - (z + 1).toNat) (List.drop (z + 1).toNat s.data.toList))))))
        have q0 := hF.cell 0; have q1 := hF.cell 1; have q2 := hF.cell 2
        simp at q0 q1 q2
        simp [results, Tryd.results5, go_sem, q0, q1, q2]
      · exact (((hb0.setCell (p := ⟨w.heap.size + 2, 2, none⟩) (by simp) _).setCell (p := ⟨w.heap.size + 1, 0, none⟩) (by simp) _).setCell (p := ⟨w.heap.size + 1, 1, none⟩) (by simp) _).setCell (p := ⟨w.heap.size + 1, 2, none⟩) (by simp) _

end Go.Proofs.YtgjlpkocieffeaaDoor
