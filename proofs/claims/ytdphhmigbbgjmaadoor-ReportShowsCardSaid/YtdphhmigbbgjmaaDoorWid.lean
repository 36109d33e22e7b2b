/- Widths: package width's Text against the reference's (colophonref02), over the tables that stand at the world. Conditions: the text has at most 2^40 bytes. -/
import Derived.Test.YtdphhmigbbgjmaaDoorWidth
import Derived.Test.YtdphhmigbbgjmaaDoorM1
import Derived.Test.YtdphhmigbbgjmaaDoorM2
import Derived.Laws.RangeString
import Derived.Laws.RangeAny
import Derived.Deep.LoopGhost
import Derived.OwnWalk
import Derived.Lib.OthersKept
import Derived.WalkSmall
namespace Go.Proofs.YtdphhmigbbgjmaaDoor
open Go.RowKit Go.Lib
attribute [local go_sem] byteAt_get wrap64_byteAt

/-- The code points of a text. -/
def pts : Bs → List Int
  | [] => []
  | b :: t => ((decodeL (b :: t)).1 : Int) :: pts (t.drop ((decodeL (b :: t)).2 - 1))
termination_by l => l.length
decreasing_by simp only [List.length_drop, List.length_cons]; omega
theorem pts_nil : pts [] = [] := by unfold pts; rfl
theorem pts_step (l : Bs) (h : l ≠ []) : pts l = ((decodeL l).1 : Int) :: pts (l.drop (decodeL l).2) := by
  cases l with
  | nil => exact absurd rfl h
  | cons b t =>
    have := decL_pos (b :: t)
    rw [pts]
    obtain ⟨n, hn⟩ : ∃ n, (decodeL (b :: t)).2 = n + 1 := ⟨(decodeL (b :: t)).2 - 1, by omega⟩
    rw [hn]; rfl
theorem pts_at (s : ByteArray) (p : Nat) (h : p < s.size) : pts (s.data.toList.drop p) = ((Utf8.decode s p).1 : Int) :: pts (s.data.toList.drop (p + (Utf8.decode s p).2)) := by
  rw [pts_step _ (drop_ne s p h), decodeL_drop, List.drop_drop]
theorem pts_end (s : ByteArray) (p : Nat) (h : s.size ≤ p) : pts (s.data.toList.drop p) = [] := by
  rw [List.drop_eq_nil_of_le (by rw [size_len]; exact h), pts_nil]
theorem pts_len (l : Bs) : (pts l).length = cnt l := by
  induction h : l.length using Nat.strongRecOn generalizing l with
  | _ n ih =>
    by_cases e : l = []
    · subst e; simp [cnt_nil, pts_nil]
    · have h1 := decL_pos l
      have h2 := decL_le l e
      rw [cnt_step l e, pts_step l e, List.length_cons, ih (l.drop (decodeL l).2).length (by rw [List.length_drop]; omega) _ rfl]; omega
/-- The width of a row of points. -/
def sumW : List Int → Int
  | [] => 0
  | p :: r => widV p + sumW r
theorem sumW_append : ∀ (l m : List Int), sumW (l ++ m) = sumW l + sumW m
  | [], m => by simp [sumW]
  | p :: r, m => by simp [sumW, sumW_append r m]; omega
theorem widV_le (p : Int) : 0 ≤ widV p ∧ widV p ≤ 2 := by unfold widV; split <;> (try split) <;> omega
theorem sumW_le : ∀ (l : List Int), 0 ≤ sumW l ∧ sumW l ≤ 2 * l.length
  | [] => by simp [sumW]
  | p :: r => by have := sumW_le r; have := widV_le p; simp [sumW]; omega
/-- The width of a text. -/
def wid (l : Bs) : Int := sumW (pts l)
theorem wid_le (l : Bs) : 0 ≤ wid l ∧ wid l ≤ 2 * l.length := by
  have := sumW_le (pts l); have h := pts_len l; have := cnt_le l; unfold wid; omega
theorem wid_at (s : ByteArray) (p : Nat) (h : p < s.size) : wid (s.data.toList.drop p) = widV ((Utf8.decode s p).1 : Int) + wid (s.data.toList.drop (p + (Utf8.decode s p).2)) := by
  unfold wid; rw [pts_at s p h]; rfl
theorem wid_end (s : ByteArray) (p : Nat) (h : s.size ≤ p) : wid (s.data.toList.drop p) = 0 := by unfold wid; rw [pts_end s p h]; rfl

set_option maxHeartbeats 4000000 in
theorem width_Text (s : ByteArray) (w : World) (hs : s.size ≤ 1099511627776) (hT : Tabs w) :
    Calls Tryd.prog 59 #[.string s] w fun e w' => e = .returned (.int .i64 (wid s.data.toList)) ∧ Below w.heap.size w w' := by
  go_enter Tryd.func59, Tryd.ntmps59
  go_wp2
  go_loopw [3] (fun v wr => ∃ (pos : Nat) (acc : Int), wr.heap[w.heap.size]? = some (.stringIter s pos) ∧ pos ≤ s.size ∧ v = .int .i64 acc ∧ 0 ≤ acc ∧ acc ≤ 2 * pos ∧ Hid (acc + wid (s.data.toList.drop pos) = wid s.data.toList) ∧ Below w.heap.size w wr) (fun _ wr => s.size - wr.iterPos w.heap.size)
  case atStart => exact ⟨0, 0, World.iter_heap _ _ _, Nat.zero_le _, rfl, by omega, by omega, by show _ = _; simp, (Below.refl _ _).alloc (Nat.le_refl _) _⟩
  case round =>
    obtain ⟨pos, acc, hit, hle, rfl, ha0, ha, hacc, hb⟩ := hrel
    by_cases hp : pos < s.size
    · have hd1 := dec_pos s pos
      have hd2 := dec_le s pos hp
      have hlt : w.heap.size < wr.heap.size := (Array.getElem?_eq_some_iff.1 hit).1
      have hnx : ∀ ty, (Instr.next (.pointer (some ⟨w.heap.size, 0, none⟩)) true ty).run Tryd.prog wr = _ := fun ty => Lib.run_next_any_at wr w.heap.size s pos ty hit hp
      have hit2 := Lib.iterAt_heap wr w.heap.size s pos (pos + (Utf8.decode s pos).2) hit
      have hb2 := Lib.below_iterAt hb (Nat.le_refl _) s (pos + (Utf8.decode s pos).2)
      have hz := Lib.iterAt_size wr w.heap.size s (pos + (Utf8.decode s pos).2)
      obtain ⟨W2, hW2⟩ : ∃ W2, wr.iterAt w.heap.size s (pos + (Utf8.decode s pos).2) = W2 := ⟨_, rfl⟩
      rw [hW2] at hit2 hb2 hnx hz
      have hlt2 : w.heap.size < W2.heap.size := by omega
      have hbs := hb2.size
      have hpos1 : Hid (wr.iterPos w.heap.size = pos) := by show _ = _; unfold World.iterPos; rw [hit]
      clear hW2 hz hb hit hlt
      have hT2 := hT.below hb2
      go_wp2_with fail
      refine (width_Of _ _ hT2).mono ?_
      rintro e w1 ⟨rfl, hq⟩
      have hit3 : w1.heap[w.heap.size]? = some (.stringIter s (pos + (Utf8.decode s pos).2)) := by rw [hq.block _ hlt2]; exact hit2
      have hb3 := hb2.trans (hq.mono hbs)
      have hpos2 : Hid (w1.iterPos w.heap.size = pos + (Utf8.decode s pos).2) := by show _ = _; unfold World.iterPos; rw [hit3]
      have hcp := Lib.rune_le s pos
      have hcw : wrap64 ((Utf8.decode s pos).1 : Int) = ((Utf8.decode s pos).1 : Int) := by unfold wrap64; omega
      rw [hcw]
      have hwv := widV_le ((Utf8.decode s pos).1 : Int)
      have hw := wid_at s pos hp
      obtain ⟨V, hV⟩ : ∃ V, widV ((Utf8.decode s pos).1 : Int) = V := ⟨_, rfl⟩
      rw [hV] at hw hwv ⊢
      have hwr : IntKind.i64.wrap (acc + V) = acc + V := IntWalk.i64_in _ (by omega)
      clear hnx hq
      go_wp2
      go_roundw
      case rel => exact ⟨pos + (Utf8.decode s pos).2, acc + V, hit3, hd2, rfl, by omega, by omega, by show _ = _; rw [← hacc.out, hw]; omega, hb3⟩
      case measure => rw [hpos1.out, hpos2.out]; omega
    · have hnx : ∀ ty, (Instr.next (.pointer (some ⟨w.heap.size, 0, none⟩)) true ty).run Tryd.prog wr = _ := fun ty => Lib.run_next_end_at wr w.heap.size s pos ty hit hp
      have e : acc = wid s.data.toList := by rw [← hacc.out, wid_end s pos (by omega), Int.add_zero]
      subst e
      go_wp2
      go_ret
      exact ⟨rfl, hb⟩
end Go.Proofs.YtdphhmigbbgjmaaDoor
