/- The reference's Places and Count (package colophonref01): where characters begin, and how many there are. Condition: the text has at most 2^44 bytes. -/
import Derived.Test.YtgjlpkocieffeaaRef01N
import Derived.Test.YtgjlpkocieffeaaHeap
namespace Go.Proofs.Ytgjlpkocieffeaa
open Go.RowKit Go.Lib

theorem Try.info3 : (Try.prog.info? 3).map (fun i => (i.zero, i.size, i.bytes)) = some (some (.int .i64 0), 1, 8) := by kernel_rfl
def iV (n : Nat) : Value := .int .i64 n
theorem r1_Places (s : ByteArray) (w : World) (hs : s.size * 8 ≤ 140737488351232) :
    Calls Try.prog 32 #[.string s] w fun e w' => ∃ v, e = .returned v ∧ w'.ownsRow w.heap.size 3 1 v (cnt s.data.toList) ((offs s.data.toList 0).map iV) ∧ Below w.heap.size w w' := by
  obtain ⟨i0, hi, hz0, hz1, hz2⟩ := info_parts Try.info3
  have hi := Lib.hid hi
  have hz0 := Lib.hid hz0
  have hz1 := Lib.hid hz1
  have hz2 := Lib.hid hz2
  go_enter Try.func32, Try.ntmps32
  go_wp2
  go_loopw [3, 4] (fun v i wr => ∃ (pos : Nat) (acc : List Nat), i = .int .i64 pos ∧ pos ≤ s.size ∧ acc.length ≤ pos ∧ acc ++ offs (s.data.toList.drop pos) pos = offs s.data.toList 0 ∧ wr.ownsRow w.heap.size 3 1 v acc.length (acc.map iV) ∧ Below w.heap.size w wr) (fun _ i _ => s.size - (intOf i).toNat)
  case atStart => exact ⟨0, [], rfl, Nat.zero_le _, Nat.le_refl _, by simp, World.ownsRow_nil _ _ _ _, Below.refl _ _⟩
  case round =>
    obtain ⟨pos, acc, rfl, hle, hal, hacc, hown, hb⟩ := hrel
    have hacc := Lib.hid hacc
    by_cases hp : pos < s.size
    · have hd1 := dec_pos s pos
      have hd2 := dec_le s pos hp
      have hbs := hb.size
      go_wp2_with (first
        | (at_builtin; refine wpList_append_own _ rfl _ _ 33 rfl w.heap.size 3 i0 (.int .i64 0) 1 8 Try.underlying33 hi.out hz0.out hz1.out hz2.out rfl (by decide) _ _ _ rfl (hown.alloc _) ⟨wr.heap.size, 0, none⟩ 1 1 [.int .i64 pos] rfl rfl (cell_one_new _ _ _) (by simp [Value.oneCell']) (by unfold maxLen; omega) (by omega) (by simp; omega) ?_; intro v' w1 hown' hgrow _; have hb1 := (hb.alloc hbs _).grown hgrow (by simp; omega) (fun k e => (hown.lt k e).1))
        | (go_at_call 36; refine (r1_Next _ _ _ hp (by omega)).mono ?_; rintro e w' ⟨rfl, rfl⟩; unfold nextV))
      go_roundw
      case rel => exact ⟨pos + (Utf8.decode s pos).2, acc ++ [pos], by go_num, hd2, by simp; omega, by rw [← hacc.out, offs_at s pos hp]; simp, by simpa [iV] using hown', hb1⟩
      case measure => simp [intOf]; omega
    · have e : acc = offs s.data.toList 0 := by rw [← hacc.out, offs_end s pos (by omega), List.append_nil]
      have e2 : acc.length = cnt s.data.toList := by rw [e, offs_len]
      rw [e2, e] at hown
      clear e e2
      go_wp2
      go_ret
      exact ⟨_, rfl, hown, hb⟩
theorem r1_Count (s : ByteArray) (w : World) (hs : s.size * 8 ≤ 140737488351232) :
    Calls Try.prog 23 #[.string s] w fun e w' => e = .returned (.int .i64 (cnt s.data.toList)) ∧ Below w.heap.size w w' := by
  go_enter Try.func23, Try.ntmps23
  go_wp2_with fail
  refine (r1_Places s _ hs).mono ?_
  rintro e w' ⟨v, rfl, hown, hb⟩
  obtain ⟨a, cap, rfl⟩ := ownsRow_shape hown
  go_wp2
  go_ret
  exact ⟨rfl, hb⟩

end Go.Proofs.Ytgjlpkocieffeaa
