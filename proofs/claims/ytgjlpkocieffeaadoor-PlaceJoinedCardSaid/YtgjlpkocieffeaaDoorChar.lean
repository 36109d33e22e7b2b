/- What the functions of package char compute: contracts of char.Count. Conditions: a text shorter than 2^62 bytes. -/
import Derived.Test.YtgjlpkocieffeaaDoorProg
import Derived.Test.YtgjlpkocieffeaaDoorUtf
import Derived.WalkKit
import Derived.Laws.RangeString
import Derived.Laws.RangeAny
import Derived.Deep.LoopGhost
import Derived.OwnWalk
import Derived.Below
namespace Go.Proofs.YtgjlpkocieffeaaDoor
open Go.RowKit Go.Lib

set_option maxHeartbeats 400000 in
theorem char_Count (s : ByteArray) (w : World) (hs : s.size < 4611686018427387904) :
    Calls Tryd.prog 9 #[.string s] w fun e w' => e = .returned (.int .i64 (cnt s.data.toList)) ∧ Below w.heap.size w w' := by
  go_enter Tryd.func9, Tryd.ntmps9
  go_wp2
  go_loopw [3] (fun n w' => ∃ (pos acc : Nat), w' = w.iter s pos ∧ n = .int .i64 acc ∧ acc + cnt (s.data.toList.drop pos) = cnt s.data.toList ∧ acc ≤ pos ∧ pos ≤ s.size) (fun _ w' => s.size - w'.iterPos w.heap.size)
  case atStart => exact ⟨0, 0, rfl, rfl, by simp, Nat.le_refl _, Nat.zero_le _⟩
  case round =>
    obtain ⟨pos, acc, rfl, rfl, hc, ha, hle⟩ := hrel
    by_cases hp : pos < s.size
    · have hnx : ∀ ty, (Instr.next (.pointer (some ⟨w.heap.size, 0, none⟩)) true ty).run Tryd.prog (w.iter s pos) = _ := fun ty => run_next_any w s pos ty hp
      have hwd := dec_pos s pos
      have hle2 := dec_le s pos hp
      go_wp2
      go_roundw
      case rel =>
        refine ⟨pos + (Utf8.decode s pos).2, acc + 1, rfl, by go_num, ?_, by omega, hle2⟩
        rw [← hc, cnt_at s pos hp]; omega
      case measure =>
        simp
        omega
    · have hnx : ∀ ty, (Instr.next (.pointer (some ⟨w.heap.size, 0, none⟩)) true ty).run Tryd.prog (w.iter s pos) = _ := fun ty => run_next_end w s pos ty hp
      go_wp2
      go_ret
      rw [cnt_end s pos (by omega), Nat.add_zero] at hc
      subst hc
      exact ⟨rfl, (Below.refl _ _).alloc (Nat.le_refl _) _⟩
end Go.Proofs.YtgjlpkocieffeaaDoor
