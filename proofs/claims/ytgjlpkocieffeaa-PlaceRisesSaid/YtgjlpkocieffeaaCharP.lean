/- char.Places tells where the characters of a text begin. Condition: at most 2^44 bytes. -/
import Derived.Test.YtgjlpkocieffeaaRef01P
import Derived.Lib.OthersKept
import Derived.WalkSmall
namespace Go.Proofs.Ytgjlpkocieffeaa
open Go.RowKit Go.Lib
set_option maxHeartbeats 1000000 in
theorem char_Places (s : ByteArray) (w : World) (hs : s.size * 8 ≤ 140737488351232) :
    Calls Try.prog 15 #[.string s] w fun e w' => ∃ v, e = .returned v ∧ w'.ownsRow (w.heap.size + 1) 3 1 v (cnt s.data.toList) ((offs s.data.toList 0).map iV) ∧ Below w.heap.size w w' := by
  obtain ⟨i0, hi, hz0, hz1, hz2⟩ := info_parts Try.info3
  have hi := Lib.hid hi; have hz0 := Lib.hid hz0; have hz1 := Lib.hid hz1; have hz2 := Lib.hid hz2
  go_enter Try.func15, Try.ntmps15
  go_wp2
  go_loopw [3] (fun v wr => ∃ (pos : Nat) (acc : List Nat), wr.heap[w.heap.size]? = some (.stringIter s pos) ∧ pos ≤ s.size ∧ acc.length ≤ pos ∧ Hid (acc ++ offs (s.data.toList.drop pos) pos = offs s.data.toList 0) ∧ wr.ownsRow (w.heap.size + 1) 3 1 v acc.length (acc.map iV) ∧ Below w.heap.size w wr) (fun _ wr => s.size - wr.iterPos w.heap.size)
  case atStart => exact ⟨0, [], World.iter_heap _ _ _, Nat.zero_le _, Nat.le_refl _, by show _ = _; simp, World.ownsRow_nil _ _ _ _, (Below.refl _ _).alloc (Nat.le_refl _) _⟩
  case round =>
    obtain ⟨pos, acc, hit, hle, hal, hacc, hown, hb⟩ := hrel
    by_cases hp : pos < s.size
    · have hd1 := dec_pos s pos
      have hd2 := dec_le s pos hp
      have hlt : w.heap.size < wr.heap.size := (Array.getElem?_eq_some_iff.1 hit).1
      have hnx : ∀ ty, (Instr.next (.pointer (some ⟨w.heap.size, 0, none⟩)) true ty).run Try.prog wr = _ := fun ty => Lib.run_next_any_at wr w.heap.size s pos ty hit hp
      have hit2 := Lib.iterAt_heap wr w.heap.size s pos (pos + (Utf8.decode s pos).2) hit
      have hb2 := Lib.below_iterAt hb (Nat.le_refl _) s (pos + (Utf8.decode s pos).2)
      have hown2 := ownsRow_iterAt hown (Nat.lt_succ_self _) s (pos + (Utf8.decode s pos).2)
      have hz := Lib.iterAt_size wr w.heap.size s (pos + (Utf8.decode s pos).2)
      obtain ⟨W2, hW2⟩ : ∃ W2, wr.iterAt w.heap.size s (pos + (Utf8.decode s pos).2) = W2 := ⟨_, rfl⟩
      rw [hW2] at hit2 hb2 hown2 hnx hz
      have hlt2 : w.heap.size < W2.heap.size := by omega
      have hbs := hb2.size
      have hpos1 : Hid (wr.iterPos w.heap.size = pos) := by show _ = _; unfold World.iterPos; rw [hit]
      clear hW2 hz hb hown hit hlt
      go_wp2_with (at_builtin; refine wpList_append_own _ rfl _ _ 33 rfl (w.heap.size + 1) 3 i0 (.int .i64 0) 1 8 Try.underlying33 hi.out hz0.out hz1.out hz2.out rfl (by decide) _ _ _ rfl (hown2.alloc _) ⟨W2.heap.size, 0, none⟩ 1 1 [.int .i64 pos] rfl rfl (cell_one_new _ _ _) (by simp [Value.oneCell']) (by unfold maxLen; omega) (by omega) (by simp; omega) ?_; intro v' w1 hown' hgrow _; have hb1 := (hb2.alloc hbs _).grown hgrow (by simp; omega) (fun k e => by have := (hown2.lt k e).1; omega))
      have hit3 : w1.heap[w.heap.size]? = some (.stringIter s (pos + (Utf8.decode s pos).2)) := by
        rw [hgrow.block _ (by simp; omega) (fun e => by have := (hown2.lt _ e.symm).1; omega), Below.heap_alloc _ _ _ hlt2]; exact hit2
      have hpos2 : Hid (w1.iterPos w.heap.size = pos + (Utf8.decode s pos).2) := by show _ = _; unfold World.iterPos; rw [hit3]
      go_roundw
      case rel => exact ⟨pos + (Utf8.decode s pos).2, acc ++ [pos], hit3, hd2, by simp; omega, by rw [← hacc.out, offs_at s pos hp]; simp [Hid], by simpa [iV] using hown', hb1⟩
      case measure => rw [hpos1.out, hpos2.out]; omega
    · have hnx : ∀ ty, (Instr.next (.pointer (some ⟨w.heap.size, 0, none⟩)) true ty).run Try.prog wr = _ := fun ty => Lib.run_next_end_at wr w.heap.size s pos ty hit hp
      have e : acc = offs s.data.toList 0 := by rw [← hacc.out, offs_end s pos (by omega), List.append_nil]
      have e2 : acc.length = cnt s.data.toList := by rw [e, offs_len]
      rw [e2, e] at hown
      clear e e2
      go_wp2
      go_ret
      exact ⟨_, rfl, hown, hb⟩

end Go.Proofs.Ytgjlpkocieffeaa
