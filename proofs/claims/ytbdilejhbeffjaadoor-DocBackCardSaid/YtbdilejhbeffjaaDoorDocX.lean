/- strings.Cut at a line end, in the form of the print; the tables that package doc reads. -/
import Derived.Test.YtbdilejhbeffjaaDoorCut1
import Derived.Test.YtbdilejhbeffjaaDoorCutS
import Derived.Test.YtbdilejhbeffjaaDoorDocW
import Derived.Test.YtbdilejhbeffjaaDoorR7B
import Derived.Test.YtbdilejhbeffjaaDoorWWords
namespace Go.Proofs.YtbdilejhbeffjaaDoor
open Go.RowKit Go.Lib Go.Proofs.YtbdilejhbeffjaaDoorW.PrintWords
def strings_Cut.f (a0 a1 : ByteArray) : Option (ByteArray × ByteArray × Bool) :=
  if a1 = ⟨#[10]⟩ ∧ a0.size < 4611686018427387904 then
    (if 0 ≤ Lib.indexByte a0.data.toList 10 then some (cutS a0 0 (Lib.indexByte a0.data.toList 10).toNat, cutS a0 ((Lib.indexByte a0.data.toList 10).toNat + 1) a0.size, true) else some (a0, ⟨#[]⟩, false))
  else none
theorem strings_Cut.calls (a0 a1 : ByteArray) (r1 r2 : ByteArray) (r3 : Bool) (w : World) (h : strings_Cut.f a0 a1 = some (r1, r2, r3)) :
    Calls Tryd.prog 48 #[.string a0, .string a1] w fun e w' => e = .returned (.tuple #[.string r1, .string r2, .bool r3]) ∧ Below w.heap.size w w' := by
  unfold strings_Cut.f at h
  by_cases c : a1 = ⟨#[10]⟩ ∧ a0.size < 4611686018427387904
  · rw [if_pos c] at h
    obtain ⟨rfl, hs⟩ := c
    refine (strings_Cut1 a0 10 w hs).mono ?_
    rintro e w' ⟨rfl, n, rfl⟩
    refine ⟨?_, pw_below_drewN (Below.refl _ _) n⟩
    unfold cut1V
    by_cases c2 : 0 ≤ Lib.indexByte a0.data.toList 10
    · rw [if_pos c2] at h
      rw [if_pos c2]
      have h := Option.some.inj h
      simp only [Prod.mk.injEq] at h
      obtain ⟨rfl, rfl, rfl⟩ := h
      rfl
    · rw [if_neg c2] at h
      rw [if_neg c2]
      have h := Option.some.inj h
      simp only [Prod.mk.injEq] at h
      obtain ⟨rfl, rfl, rfl⟩ := h
      rfl
  · rw [if_neg c] at h; cases h
def strings_IndexByte.f (a0 : ByteArray) (a1 : Int) : Option Int := some (Lib.indexByte a0.data.toList a1.toNat.toUInt8)
theorem strings_IndexByte.calls (a0 : ByteArray) (a1 : Int) (r : Int) (w : World) (h : strings_IndexByte.f a0 a1 = some r) :
    Calls Tryd.prog 98 #[.string a0, .int .u8 a1] w fun e w' => e = .returned (.int .i64 r) ∧ Below w.heap.size w w' := by
  obtain rfl := Option.some.inj h
  exact (Tryd.strings_IndexByte a0 a1 w).mono fun e w' ⟨h1, h2⟩ => ⟨h1, by subst h2; exact Below.refl _ _⟩
def rightF (a0_0 : Int) (a0_1 : ByteArray) (a0_2 a0_3 : Int) (a0_4 : Bool) : Option Bool := if 0 ≤ a0_0 then some (rightB ⟨a0_0.toNat, a0_1, a0_2, a0_3, a0_4⟩) else none
def doc_right.f (a0_0 : Int) (a0_1 : ByteArray) (a0_2 : Int) (a0_3 : Int) (a0_4 : Bool) : Option Bool := rightF a0_0 a0_1 a0_2 a0_3 a0_4
theorem doc_right.calls (a0_0 : Int) (a0_1 : ByteArray) (a0_2 : Int) (a0_3 : Int) (a0_4 : Bool) (r : Bool) (w : World) (h : doc_right.f a0_0 a0_1 a0_2 a0_3 a0_4 = some r) :
    Calls Tryd.prog 42 #[.agg #[.int .u8 a0_0, .string a0_1, .int .i64 a0_2, .int .i64 a0_3, .bool a0_4]] w fun e w' => e = .returned (.bool r) ∧ Below w.heap.size w w' := by
  unfold doc_right.f rightF at h
  by_cases c : 0 ≤ a0_0
  · rw [if_pos c] at h
    obtain ⟨n, rfl⟩ := Int.eq_ofNat_of_zero_le c
    obtain rfl := Option.some.inj h
    exact doc_right ⟨n, a0_1, a0_2, a0_3, a0_4⟩ w
  · rw [if_neg c] at h; cases h
def colophonref07_Right.f (a0_0 : Int) (a0_1 : ByteArray) (a0_2 : Int) (a0_3 : Int) (a0_4 : Bool) : Option Bool := rightF a0_0 a0_1 a0_2 a0_3 a0_4
theorem colophonref07_Right.calls (a0_0 : Int) (a0_1 : ByteArray) (a0_2 : Int) (a0_3 : Int) (a0_4 : Bool) (r : Bool) (w : World) (h : colophonref07_Right.f a0_0 a0_1 a0_2 a0_3 a0_4 = some r) :
    Calls Tryd.prog 32 #[.agg #[.int .u8 a0_0, .string a0_1, .int .i64 a0_2, .int .i64 a0_3, .bool a0_4]] w fun e w' => e = .returned (.bool r) ∧ Below w.heap.size w w' := by
  unfold colophonref07_Right.f rightF at h
  by_cases c : 0 ≤ a0_0
  · rw [if_pos c] at h
    obtain ⟨n, rfl⟩ := Int.eq_ofNat_of_zero_le c
    obtain rfl := Option.some.inj h
    exact r7_Right ⟨n, a0_1, a0_2, a0_3, a0_4⟩ w
  · rw [if_neg c] at h; cases h
end Go.Proofs.YtbdilejhbeffjaaDoor
