/- The program's sink (package sink): New, Blanks, Column, Fresh, Take. -/
import Derived.Test.YtphcmbdmkhmfbaaDoorRef06M
namespace Go.Proofs.YtphcmbdmkhmfbaaDoor
open Go.RowKit Go.Lib

abbrev T7 : TypeId := 67
abbrev S7 := Snk T7
set_option maxHeartbeats 4000000 in
theorem sk_New (w : World) : Calls Tryd.prog 22 #[] w fun e w' => e = .returned (.pointer (some ⟨w.heap.size, 0, none⟩)) ∧ S7 w' w.heap.size (.slice none 0 0) [] false 0 0 0 ∧ Below w.heap.size w w' := by
  go_enter Tryd.func22, Tryd.ntmps22
  go_wp2
  go_ret
  exact ⟨rfl, ⟨Blk.new _ _ _, Buf.nil _ _⟩, (Below.refl _ _).alloc (Nat.le_refl _) _⟩
set_option maxHeartbeats 4000000 in
set_option maxRecDepth 100000 in
theorem sk_Blanks (b : Nat) (v : Value) (l : List UInt8) (f : Bool) (x y : Int) (z : Nat) (n : Int) (w : World) (h : S7 w b v l f x y z) (hz : z ≤ 1099511627776) :
    Calls Tryd.prog 13 #[.pointer (some ⟨b, 0, none⟩), .int .i64 n] w fun e w' => (0 ≤ n ∧ n ≤ 1048576 → e = .returned (.int .i64 0) ∧ S7 w' b v l f x y ((z : Int) + n)) ∧ (¬ (0 ≤ n ∧ n ≤ 1048576) → e = .returned (.int .i64 1) ∧ S7 w' b v l f x y z) ∧ Kept (Own b v) w w' := by
  have q0 := h.blk.cell 0; have q1 := h.blk.cell 1; have q2 := h.blk.cell 2; have q3 := h.blk.cell 3; have q4 := h.blk.cell 4
  have f4 := h.blk.frozen 4
  simp at q0 q1 q2 q3 q4
  have hS := Lib.hid h
  clear h
  by_cases h1 : n < 0
  · go_enter Tryd.func13, Tryd.ntmps13
    go_wp2
    go_ret
    first | exact ⟨fun hh => by omega, fun _ => ⟨rfl, hS.out⟩, Kept.refl _ _⟩ | exact ⟨⟨rfl, hS.out⟩, Kept.refl _ _⟩ | exact ⟨fun hh => by omega, ⟨rfl, hS.out⟩, Kept.refl _ _⟩
  by_cases h2 : 1048576 < n
  · go_enter Tryd.func13, Tryd.ntmps13
    go_wp2
    go_ret
    first | exact ⟨fun hh => by omega, fun _ => ⟨rfl, hS.out⟩, Kept.refl _ _⟩ | exact ⟨⟨rfl, hS.out⟩, Kept.refl _ _⟩ | exact ⟨fun hh => by omega, ⟨rfl, hS.out⟩, Kept.refl _ _⟩
  have hw : IntKind.i64.wrap ((z : Int) + n) = z + n := IntWalk.i64_in _ (by omega)
  go_enter Tryd.func13, Tryd.ntmps13
  go_wp2
  go_ret
  first | exact ⟨⟨rfl, hS.out.put4 _⟩, (Kept.refl _ _).setCell ⟨b, 4, none⟩ _ (.inl rfl)⟩ | exact ⟨fun _ => ⟨rfl, hS.out.put4 _⟩, fun hh => by omega, (Kept.refl _ _).setCell ⟨b, 4, none⟩ _ (.inl rfl)⟩
set_option maxHeartbeats 4000000 in
set_option maxRecDepth 100000 in
theorem sk_Column (b : Nat) (v : Value) (l : List UInt8) (f : Bool) (x y z : Int) (w : World) (h : S7 w b v l f x y z) (hx : 0 ≤ x ∧ x ≤ 1099511627776) (hy : 0 ≤ y ∧ y ≤ 1099511627776) (hz : 0 ≤ z ∧ z ≤ 1099511627776) :
    Calls Tryd.prog 16 #[.pointer (some ⟨b, 0, none⟩)] w fun e w' => e = .returned (.int .i64 ((if f then y else x) + z)) ∧ Kept (Own b v) w w' ∧ S7 w' b v l f x y z := by
  have q0 := h.blk.cell 0; have q1 := h.blk.cell 1; have q2 := h.blk.cell 2; have q3 := h.blk.cell 3; have q4 := h.blk.cell 4
  simp at q0 q1 q2 q3 q4
  have hS := Lib.hid h
  clear h
  have hw : IntKind.i64.wrap (x + z) = x + z := IntWalk.i64_in _ (by omega)
  have hw2 : IntKind.i64.wrap (y + z) = y + z := IntWalk.i64_in _ (by omega)
  go_enter Tryd.func16, Tryd.ntmps16
  cases f
  · go_wp2
    go_quiet (fail)
    go_wp2
    go_ret
    exact ⟨rfl, (Kept.refl _ _).drewN _, hS.out.drewN _⟩
  · go_wp2
    go_quiet (fail)
    go_wp2
    go_ret
    exact ⟨rfl, (Kept.refl _ _).drewN _, hS.out.drewN _⟩
set_option maxHeartbeats 4000000 in
set_option maxRecDepth 100000 in
theorem sk_Fresh (b : Nat) (v : Value) (l : List UInt8) (f : Bool) (x y z : Int) (w : World) (h : S7 w b v l f x y z) :
    Calls Tryd.prog 17 #[.pointer (some ⟨b, 0, none⟩)] w fun e w' => e = .returned (.bool (!f)) ∧ Kept (Own b v) w w' ∧ S7 w' b v l f x y z := by
  have q1 := h.blk.cell 1
  simp at q1
  have hS := Lib.hid h
  clear h
  go_enter Tryd.func17, Tryd.ntmps17
  go_wp2
  go_ret
  exact ⟨rfl, Kept.refl _ _, hS.out⟩
set_option maxHeartbeats 4000000 in
set_option maxRecDepth 100000 in
theorem sk_Take (b : Nat) (v : Value) (l : List UInt8) (f : Bool) (x y z : Int) (w : World) (h : S7 w b v l f x y z) :
    Calls Tryd.prog 18 #[.pointer (some ⟨b, 0, none⟩)] w fun e w' => e = .returned (.string ⟨l.toArray⟩) ∧ Kept (Own b v) w w' ∧ S7 w' b (.slice none 0 0) [] f x y z := by
  have q0 := h.blk.cell 0
  have f0 := h.blk.frozen 0
  simp at q0
  have hcv := buf_string h.buf
  have hS := Lib.hid h
  clear h
  go_enter Tryd.func18, Tryd.ntmps18
  go_wp2
  go_ret
  exact ⟨rfl, (Kept.refl _ _).setCell ⟨b, 0, none⟩ _ (.inl rfl), ⟨hS.out.blk.set 0 _, Buf.nil _ _⟩⟩
end Go.Proofs.YtphcmbdmkhmfbaaDoor
