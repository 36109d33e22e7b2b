/- gathers, of the program's sink: its two closures. -/
import Derived.Test.YtphcmbdmkhmfbaaDoorSinkM
import Derived.Test.YtphcmbdmkhmfbaaDoorBuild
namespace Go.Proofs.YtphcmbdmkhmfbaaDoor
open Go.RowKit Go.Lib

abbrev TB : TypeId := 90
abbrev TU : TypeId := 5
set_option maxHeartbeats 4000000 in
/-- gathers$2: what is written goes into the builder. -/
theorem sk_write (B b : Nat) (bs : List Value) (s : ByteArray) (w : World) (h : Lib.IsBuilderF TB TU B b bs w) (hlen : bs.length + s.size ≤ 140737488355328) (hBw : B ≤ w.heap.size) :
    Calls Tryd.prog 63 #[.string s, .pointer (some ⟨b, 0, none⟩)] w fun e w' => e = .returned (.tuple #[]) ∧ Lib.BuilderAtF TB TU B b (.pointer (some ⟨b, 0, none⟩)) (bs ++ Lib.strCells s) w' ∧ Below B w w' ∧ Lib.OthersKept TU (some b) w w' := by
  have hc := Lib.hid (Tryd.Builder_WriteString_k B b bs s w h hlen hBw)
  clear h
  go_enter Tryd.func63, Tryd.ntmps63
  go_wp2_with fail
  refine hc.out.mono ?_
  rintro e w' ⟨rfl, hb, h2, h3⟩
  go_wp2
  go_end0
  exact ⟨rfl, hb, h2, h3⟩
/-- The closure that gathers hands to the function it was given. -/
def wr (b : Nat) : Value := .func (.func 63) #[] #[.pointer (some ⟨b, 0, none⟩)]
set_option maxHeartbeats 4000000 in
theorem sk_feed1 (B b : Nat) (bs : List Value) (w : World) (h : Lib.IsBuilderF TB TU B b bs w) (hlen : bs.length + 1 ≤ 140737488355328) (hBw : B ≤ w.heap.size) :
    Calls Tryd.prog 41 #[wr b] w fun e w' => e = .returned (.tuple #[]) ∧ Lib.BuilderAtF TB TU B b (.pointer (some ⟨b, 0, none⟩)) (bs ++ Lib.strCells ⟨#[10]⟩) w' ∧ Below B w w' ∧ Lib.OthersKept TU (some b) w w' := by
  have hc := Lib.hid (sk_write B b bs ⟨#[10]⟩ w h hlen hBw)
  clear h
  unfold wr
  go_enter Tryd.func41, Tryd.ntmps41
  go_wp2_with (go_at_call 63; refine hc.out.mono ?_; rintro e w' ⟨rfl, hb, h2, h3⟩)
  go_end0
  exact ⟨rfl, hb, h2, h3⟩
end Go.Proofs.YtphcmbdmkhmfbaaDoor
