/- The reference's sink: Text, Blanks, Feed, Empty, Column, Fresh, Take. -/
import Derived.Test.YtphcmbdmkhmfbaaDoorRef06
import Derived.Test.YtphcmbdmkhmfbaaDoorPos
import Derived.Deep.QuietTactic
import Derived.BigQuiet
namespace Go.Proofs.YtphcmbdmkhmfbaaDoor
open Go.RowKit Go.Lib

theorem Snk.put1 {T : TypeId} {w : World} {b : Nat} {v : Value} {l : List UInt8} {f : Bool} {x y z : Int} (h : Snk T w b v l f x y z) (g : Bool) : Snk T (w.setCell ⟨b, 1, none⟩ (.bool g)) b v l g x y z := ⟨h.blk.set 1 _, h.buf.other _ _ (Nat.lt_succ_self b)⟩
theorem Snk.put2 {T : TypeId} {w : World} {b : Nat} {v : Value} {l : List UInt8} {f : Bool} {x y z : Int} (h : Snk T w b v l f x y z) (g : Int) : Snk T (w.setCell ⟨b, 2, none⟩ (.int .i64 g)) b v l f g y z := ⟨h.blk.set 2 _, h.buf.other _ _ (Nat.lt_succ_self b)⟩
theorem Snk.put3 {T : TypeId} {w : World} {b : Nat} {v : Value} {l : List UInt8} {f : Bool} {x y z : Int} (h : Snk T w b v l f x y z) (g : Int) : Snk T (w.setCell ⟨b, 3, none⟩ (.int .i64 g)) b v l f x g z := ⟨h.blk.set 3 _, h.buf.other _ _ (Nat.lt_succ_self b)⟩
theorem Snk.put4 {T : TypeId} {w : World} {b : Nat} {v : Value} {l : List UInt8} {f : Bool} {x y z : Int} (h : Snk T w b v l f x y z) (g : Int) : Snk T (w.setCell ⟨b, 4, none⟩ (.int .i64 g)) b v l f x y g := ⟨h.blk.set 4 _, h.buf.other _ _ (Nat.lt_succ_self b)⟩
theorem Snk.drew {T : TypeId} {w : World} {b : Nat} {v : Value} {l : List UInt8} {f : Bool} {x y z : Int} (h : Snk T w b v l f x y z) : Snk T w.drew b v l f x y z := ⟨h.blk, h.buf⟩

theorem Snk.drewN {T : TypeId} {w : World} {b : Nat} {v : Value} {l : List UInt8} {f : Bool} {x y z : Int} (h : Snk T w b v l f x y z) (n : Nat) : Snk T (w.drewN n) b v l f x y z := ⟨h.blk, h.buf⟩
theorem Kept.drewN {own : Nat → Prop} {a w : World} (h : Kept own a w) (n : Nat) : Kept own a (w.drewN n) := ⟨h.os, h.tape, h.output, h.size, h.block⟩
set_option maxHeartbeats 4000000 in
set_option maxRecDepth 100000 in
theorem r6_Blanks (b : Nat) (v : Value) (l : List UInt8) (f : Bool) (x y : Int) (z : Nat) (n : Int) (w : World) (h : S6 w b v l f x y z) (hz : z ≤ 1099511627776) :
    Calls Tryd.prog 44 #[.pointer (some ⟨b, 0, none⟩), .int .i64 n] w fun e w' => (0 ≤ n ∧ n ≤ 1048576 → e = .returned (.int .i64 0) ∧ S6 w' b v l f x y ((z : Int) + n)) ∧ (¬ (0 ≤ n ∧ n ≤ 1048576) → e = .returned (.int .i64 1) ∧ S6 w' b v l f x y z) ∧ Kept (Own b v) w w' := by
  have q0 := h.blk.cell 0; have q1 := h.blk.cell 1; have q2 := h.blk.cell 2; have q3 := h.blk.cell 3; have q4 := h.blk.cell 4
  have f4 := h.blk.frozen 4
  simp at q0 q1 q2 q3 q4
  have hS := Lib.hid h
  clear h
  by_cases h1 : n < 0
  · go_enter Tryd.func44, Tryd.ntmps44
    go_wp2
    go_ret
    first | exact ⟨fun hh => by omega, fun _ => ⟨rfl, hS.out⟩, Kept.refl _ _⟩ | exact ⟨⟨rfl, hS.out⟩, Kept.refl _ _⟩ | exact ⟨fun hh => by omega, ⟨rfl, hS.out⟩, Kept.refl _ _⟩
  by_cases h2 : 1048576 < n
  · go_enter Tryd.func44, Tryd.ntmps44
    go_wp2
    go_ret
    first | exact ⟨fun hh => by omega, fun _ => ⟨rfl, hS.out⟩, Kept.refl _ _⟩ | exact ⟨⟨rfl, hS.out⟩, Kept.refl _ _⟩ | exact ⟨fun hh => by omega, ⟨rfl, hS.out⟩, Kept.refl _ _⟩
  have hw : IntKind.i64.wrap ((z : Int) + n) = z + n := IntWalk.i64_in _ (by omega)
  go_enter Tryd.func44, Tryd.ntmps44
  go_wp2
  go_ret
  first | exact ⟨⟨rfl, hS.out.put4 _⟩, (Kept.refl _ _).setCell ⟨b, 4, none⟩ _ (.inl rfl)⟩ | exact ⟨fun _ => ⟨rfl, hS.out.put4 _⟩, fun hh => by omega, (Kept.refl _ _).setCell ⟨b, 4, none⟩ _ (.inl rfl)⟩
set_option maxHeartbeats 4000000 in
set_option maxRecDepth 100000 in
theorem r6_Column (b : Nat) (v : Value) (l : List UInt8) (f : Bool) (x y z : Int) (w : World) (h : S6 w b v l f x y z) (hx : 0 ≤ x ∧ x ≤ 1099511627776) (hy : 0 ≤ y ∧ y ≤ 1099511627776) (hz : 0 ≤ z ∧ z ≤ 1099511627776) :
    Calls Tryd.prog 48 #[.pointer (some ⟨b, 0, none⟩)] w fun e w' => e = .returned (.int .i64 ((if f then x else y) + z)) ∧ Kept (Own b v) w w' ∧ S6 w' b v l f x y z := by
  have q0 := h.blk.cell 0; have q1 := h.blk.cell 1; have q2 := h.blk.cell 2; have q3 := h.blk.cell 3; have q4 := h.blk.cell 4
  simp at q0 q1 q2 q3 q4
  have hS := Lib.hid h
  clear h
  have hw : IntKind.i64.wrap (x + z) = x + z := IntWalk.i64_in _ (by omega)
  have hw2 : IntKind.i64.wrap (y + z) = y + z := IntWalk.i64_in _ (by omega)
  go_enter Tryd.func48, Tryd.ntmps48
  cases f
  · go_wp2
    go_quiet (fail)
    go_wp2
    go_ret
    exact ⟨rfl, (Kept.refl _ _).drewN _, hS.out.drewN _⟩
  · go_wp2
    go_quiet (fail)
    go_wp2
    go_ret
    exact ⟨rfl, (Kept.refl _ _).drewN _, hS.out.drewN _⟩
set_option maxHeartbeats 4000000 in
set_option maxRecDepth 100000 in
theorem r6_Fresh (b : Nat) (v : Value) (l : List UInt8) (f : Bool) (x y z : Int) (w : World) (h : S6 w b v l f x y z) :
    Calls Tryd.prog 49 #[.pointer (some ⟨b, 0, none⟩)] w fun e w' => e = .returned (.bool f) ∧ Kept (Own b v) w w' ∧ S6 w' b v l f x y z := by
  have q1 := h.blk.cell 1
  simp at q1
  have hS := Lib.hid h
  clear h
  go_enter Tryd.func49, Tryd.ntmps49
  go_wp2
  go_ret
  exact ⟨rfl, Kept.refl _ _, hS.out⟩
set_option maxHeartbeats 4000000 in
set_option maxRecDepth 100000 in
theorem r6_Take (b : Nat) (v : Value) (l : List UInt8) (f : Bool) (x y z : Int) (w : World) (h : S6 w b v l f x y z) :
    Calls Tryd.prog 47 #[.pointer (some ⟨b, 0, none⟩)] w fun e w' => e = .returned (.string ⟨l.toArray⟩) ∧ Kept (Own b v) w w' ∧ S6 w' b (.slice none 0 0) [] f x y z := by
  have q0 := h.blk.cell 0
  have f0 := h.blk.frozen 0
  simp at q0
  have hcv := buf_string h.buf
  have hS := Lib.hid h
  clear h
  go_enter Tryd.func47, Tryd.ntmps47
  go_wp2
  go_ret
  exact ⟨rfl, (Kept.refl _ _).setCell ⟨b, 0, none⟩ _ (.inl rfl), ⟨hS.out.blk.set 0 _, Buf.nil _ _⟩⟩
end Go.Proofs.YtphcmbdmkhmfbaaDoor
