/- char.Places tells where the characters of a text begin. Condition: at most 2^44 bytes. The places where characters begin, one behind the other, in plain Lean. No program; no condition. place.Start and place.Of tell the places of a text. Condition: at most 2^44 bytes. -/
import Derived.Test.YtdphhmigbbgjmaaDoorM2
import Derived.Lib.OthersKept
import Derived.WalkSmall
import Derived.Test.YtdphhmigbbgjmaaDoorM1
section
namespace Go.Proofs.YtdphhmigbbgjmaaDoor
open Go.RowKit Go.Lib
attribute [local go_sem] byteAt_get wrap64_byteAt
set_option maxHeartbeats 1000000 in
theorem char_Places (s : ByteArray) (w : World) (hs : s.size * 8 ≤ 140737488351232) :
    Calls Tryd.prog 31 #[.string s] w fun e w' => ∃ v, e = .returned v ∧ w'.ownsRow (w.heap.size + 1) 3 1 v (cnt s.data.toList) ((offs s.data.toList 0).map iV) ∧ Below w.heap.size w w' := by
  obtain ⟨i0, hi, hz0, hz1, hz2⟩ := info_parts Tryd.info3
  have hi := Lib.hid hi; have hz0 := Lib.hid hz0; have hz1 := Lib.hid hz1; have hz2 := Lib.hid hz2
  go_enter Tryd.func31, Tryd.ntmps31
  go_wp2
  go_loopw [3] (fun v wr => ∃ (pos : Nat) (acc : List Nat), wr.heap[w.heap.size]? = some (.stringIter s pos) ∧ pos ≤ s.size ∧ acc.length ≤ pos ∧ Hid (acc ++ offs (s.data.toList.drop pos) pos = offs s.data.toList 0) ∧ wr.ownsRow (w.heap.size + 1) 3 1 v acc.length (acc.map iV) ∧ Below w.heap.size w wr) (fun _ wr => s.size - wr.iterPos w.heap.size)
  case atStart => exact ⟨0, [], World.iter_heap _ _ _, Nat.zero_le _, Nat.le_refl _, by show _ = _; simp, World.ownsRow_nil _ _ _ _, (Below.refl _ _).alloc (Nat.le_refl _) _⟩
  case round =>
    obtain ⟨pos, acc, hit, hle, hal, hacc, hown, hb⟩ := hrel
    by_cases hp : pos < s.size
    · have hd1 := dec_pos s pos
      have hd2 := dec_le s pos hp
      have hlt : w.heap.size < wr.heap.size := (Array.getElem?_eq_some_iff.1 hit).1
      have hnx : ∀ ty, (Instr.next (.pointer (some ⟨w.heap.size, 0, none⟩)) true ty).run Tryd.prog wr = _ := fun ty => Lib.run_next_any_at wr w.heap.size s pos ty hit hp
      have hit2 := Lib.iterAt_heap wr w.heap.size s pos (pos + (Utf8.decode s pos).2) hit
      have hb2 := Lib.below_iterAt hb (Nat.le_refl _) s (pos + (Utf8.decode s pos).2)
      have hown2 := ownsRow_iterAt hown (Nat.lt_succ_self _) s (pos + (Utf8.decode s pos).2)
      have hz := Lib.iterAt_size wr w.heap.size s (pos + (Utf8.decode s pos).2)
      obtain ⟨W2, hW2⟩ : ∃ W2, wr.iterAt w.heap.size s (pos + (Utf8.decode s pos).2) = W2 := ⟨_, rfl⟩
      rw [hW2] at hit2 hb2 hown2 hnx hz
      have hlt2 : w.heap.size < W2.heap.size := by omega
      have hbs := hb2.size
      have hpos1 : Hid (wr.iterPos w.heap.size = pos) := by show _ = _; unfold World.iterPos; rw [hit]
      clear hW2 hz hb hown hit hlt
      go_wp2_with (at_builtin; refine wpList_append_own _ rfl _ _ 63 rfl (w.heap.size + 1) 3 i0 (.int .i64 0) 1 8 Tryd.underlying63 hi.out hz0.out hz1.out hz2.out rfl (by decide) _ _ _ rfl (hown2.alloc _) ⟨W2.heap.size, 0, none⟩ 1 1 [.int .i64 pos] rfl rfl (cell_one_new _ _ _) (by simp [Value.oneCell']) (by unfold maxLen; omega) (by omega) (by simp; omega) ?_; intro v' w1 hown' hgrow _; have hb1 := (hb2.alloc hbs _).grown hgrow (by simp; omega) (fun k e => by have := (hown2.lt k e).1; omega))
      have hit3 : w1.heap[w.heap.size]? = some (.stringIter s (pos + (Utf8.decode s pos).2)) := by
        rw [hgrow.block _ (by simp; omega) (fun e => by have := (hown2.lt _ e.symm).1; omega), Below.heap_alloc _ _ _ hlt2]; exact hit2
      have hpos2 : Hid (w1.iterPos w.heap.size = pos + (Utf8.decode s pos).2) := by show _ = _; unfold World.iterPos; rw [hit3]
      go_roundw
      case rel => exact ⟨pos + (Utf8.decode s pos).2, acc ++ [pos], hit3, hd2, by simp; omega, by rw [← hacc.out, offs_at s pos hp]; simp [Hid], by simpa [iV] using hown', hb1⟩
      case measure => rw [hpos1.out, hpos2.out]; omega
    · have hnx : ∀ ty, (Instr.next (.pointer (some ⟨w.heap.size, 0, none⟩)) true ty).run Tryd.prog wr = _ := fun ty => Lib.run_next_end_at wr w.heap.size s pos ty hit hp
      have e : acc = offs s.data.toList 0 := by rw [← hacc.out, offs_end s pos (by omega), List.append_nil]
      have e2 : acc.length = cnt s.data.toList := by rw [e, offs_len]
      rw [e2, e] at hown
      clear e e2
      go_wp2
      go_ret
      exact ⟨_, rfl, hown, hb⟩

end Go.Proofs.YtdphhmigbbgjmaaDoor
end
section
namespace Go.Proofs.YtdphhmigbbgjmaaDoor
open Go.RowKit Go.Lib
theorem offs_chain (s : ByteArray) : ∀ (m p : Nat), CB s p → p + m = s.size → ∀ i (hi : i < (offs (s.data.toList.drop p) p).length), (offs (s.data.toList.drop p) p)[i] < s.size ∧ CB s (offs (s.data.toList.drop p) p)[i] ∧
    ∀ (hj : i + 1 < (offs (s.data.toList.drop p) p).length), (offs (s.data.toList.drop p) p)[i + 1] = (offs (s.data.toList.drop p) p)[i] + (Utf8.decode s (offs (s.data.toList.drop p) p)[i]).2 := by
  intro m
  induction m using Nat.strongRecOn with
  | _ m ih =>
    intro p hcb hm i hi
    by_cases hp : p < s.size
    · have e := offs_at s p hp
      have h1 := dec_pos s p
      have h2 := dec_le s p hp
      have ih' := ih (m - (Utf8.decode s p).2) (by omega) (p + (Utf8.decode s p).2) (CB_step s p hcb hp).1 (by omega)
      simp only [e] at hi ⊢
      cases i with
      | zero =>
        refine ⟨hp, hcb, fun hj => ?_⟩
        simp only [List.getElem_cons_succ, List.getElem_cons_zero, List.length_cons] at hj ⊢
        by_cases hq : p + (Utf8.decode s p).2 < s.size
        · simp only [offs_at s _ hq, List.getElem_cons_zero]
        · rw [offs_end s _ (by omega)] at hj; simp at hj
      | succ i =>
        have := ih' i (by simpa using hi)
        refine ⟨this.1, this.2.1, fun hj => this.2.2 (by simpa using hj)⟩
    · rw [offs_end s p (by omega)] at hi; simp at hi
theorem offs_all (s : ByteArray) (i : Nat) (hi : i < (offs s.data.toList 0).length) : (offs s.data.toList 0)[i] < s.size ∧ CB s (offs s.data.toList 0)[i] ∧
    ∀ (hj : i + 1 < (offs s.data.toList 0).length), (offs s.data.toList 0)[i + 1] = (offs s.data.toList 0)[i] + (Utf8.decode s (offs s.data.toList 0)[i]).2 :=
  offs_chain s s.size 0 (CB_zero s) (by omega) i hi
theorem offs_first (s : ByteArray) (h : 0 < (offs s.data.toList 0).length) : (offs s.data.toList 0)[0] = 0 := by
  by_cases hp : 0 < s.size
  · have e := offs_at s 0 hp
    rw [List.drop_zero] at e
    simp only [e, List.getElem_cons_zero]
  · have := offs_end s 0 (by omega); rw [List.drop_zero] at this; rw [this] at h; simp at h

end Go.Proofs.YtdphhmigbbgjmaaDoor
end
section
namespace Go.Proofs.YtdphhmigbbgjmaaDoor
open Go.RowKit Go.Lib
attribute [local go_sem] byteAt_get wrap64_byteAt
theorem advV_shape (a l c : Int) (s : ByteArray) : ∃ A L C, Hid (advV a l c s = .agg #[.int .i64 A, .int .i64 L, .int .i64 C]) := ⟨_, _, _, Lib.hid rfl⟩
theorem w1_one : wrap64 1 = 1 := by unfold wrap64; omega
def startV : Value := .agg #[.int .i64 0, .int .i64 1, .int .i64 1]
theorem place_Start (w : World) : Calls Tryd.prog 18 #[] w fun e w' => e = .returned startV ∧ Below w.heap.size w w' := by
  go_enter Tryd.func18, Tryd.ntmps18
  go_wp2
  exact bodyPost_ret (v := startV) (by simp [results, Tryd.results18, go_sem, startV]) rfl ⟨rfl, (Below.refl _ _).alloc (Nat.le_refl _) _⟩
set_option maxHeartbeats 1000000 in
theorem place_Of (s : ByteArray) (k : Nat) (w : World) (hs : s.size * 8 ≤ 140737488351232) (hk : k ≤ s.size) :
    Calls Tryd.prog 17 #[.string s, .int .i64 k] w fun e w' => e = .returned (.tuple #[advV 0 1 1 (s.extract 0 k), .int .i64 0]) ∧ Below w.heap.size w w' := by
  have hx : (s.extract 0 k).size * 8 ≤ 140737488351232 := by simp; omega
  have hR : Blk (w.alloc (.cells #[.int .i64 0, .int .i64 0, .int .i64 0] 26)) w.heap.size #[.int .i64 0, .int .i64 0, .int .i64 0] 26 := Blk.new _ _ _
  have hb0 : Below w.heap.size w (w.alloc (.cells #[.int .i64 0, .int .i64 0, .int .i64 0] 26)) := (Below.refl _ _).alloc (Nat.le_refl _) _
  obtain ⟨A, L, C, hV⟩ := advV_shape 0 1 1 (s.extract 0 k)
  go_enter Tryd.func17, Tryd.ntmps17
  go_wp2
  obtain ⟨W, hW⟩ : ∃ W, w.alloc (.cells #[.int .i64 0, .int .i64 0, .int .i64 0] 26) = W := ⟨_, rfl⟩
  rw [hW] at hR hb0 ⊢
  clear hW
  go_region_with (first | (go_at_call 18; refine (place_Start _).mono ?_; rintro e w1 ⟨rfl, hb⟩; replace hR := (by first | exact hR.below' hb | exact hR.drew.below' hb); replace hb0 := (by first | exact hb0.trans (hb.mono hb0.size) | exact hb0.drew.trans (hb.mono hb0.size)); unfold startV) | (go_at_call 20; refine (place_Advance 0 1 1 _ _ (by omega)).mono ?_; rintro e w1 ⟨rfl, hb⟩; replace hR := (by first | exact hR.below' hb | exact hR.drew.below' hb); replace hb0 := (by first | exact hb0.trans (hb.mono hb0.size) | exact hb0.drew.trans (hb.mono hb0.size)); rw [hV.out]; have r0 := hR.cell 0; have r1 := hR.cell 1; have r2 := hR.cell 2; have rf := hR.frozen 0; have rf1 := hR.frozen 1; have rf2 := hR.frozen 2; simp at r0 r1 r2))
  all_goals
    go_wp2
    refine bodyPost_ret (v := .tuple #[.agg #[.int .i64 A, .int .i64 L, .int .i64 C], .int .i64 0]) ?_ rfl ⟨by rw [hV.out], ?_⟩
    · have hF := ((hR.set 0 (.int .i64 A)).set 1 (.int .i64 L)).set 2 (.int .i64 C)
      have q0 := hF.cell 0; have q1 := hF.cell 1; have q2 := hF.cell 2
      simp at q0 q1 q2
      simp [results, Tryd.results17, go_sem, q0, q1, q2]
    · exact ((hb0.setCell (p := ⟨w.heap.size, 0, none⟩) (by simp) _).setCell (p := ⟨w.heap.size, 1, none⟩) (by simp) _).setCell (p := ⟨w.heap.size, 2, none⟩) (by simp) _
theorem place_Of_no (s : ByteArray) (k : Int) (w : World) (hk : k < 0 ∨ s.size < k) :
    Calls Tryd.prog 17 #[.string s, .int .i64 k] w fun e w' => e = .returned (.tuple #[.agg #[.int .i64 0, .int .i64 0, .int .i64 0], .int .i64 1]) ∧ Below w.heap.size w w' := by
  by_cases h : k < 0
  all_goals
    go_enter Tryd.func17, Tryd.ntmps17
    go_wp2
    exact bodyPost_ret (v := .tuple #[.agg #[.int .i64 0, .int .i64 0, .int .i64 0], .int .i64 1]) (by simp [results, Tryd.results17, go_sem]) rfl ⟨rfl, (Below.refl _ _).alloc (Nat.le_refl _) _⟩
end Go.Proofs.YtdphhmigbbgjmaaDoor
end
