/- A slice of truth values among the arguments. -/
import Derived.Test.YtphcmbdmkhmfbaaDoorArgs
import Derived.Test.YtphcmbdmkhmfbaaDoorTakes
namespace Go.Proofs.YtphcmbdmkhmfbaaDoor
open Go.ChangeShapes Go.WideShapes Go.ChangeAt Go.RowKit
set_option maxRecDepth 100000 in
theorem open_bools {H : Type} {enc : TypeId × Value → H} {W : World} {base b0 : Nat} {r : Reach} {sp : Nat → Bool} {hd : Bool} {v : Value} {d : DataW H} {ps : List MemPlace} (hval : Value.okWide Tryd.prog W r b0 38 v) (h : DataW.Trod enc Tryd.prog W base sp hd 38 v d ps) :
    ∃ ao cap B, v = .slice ao (List.length B) cap ∧ Bools W ao B := by
  obtain ⟨a, len, cap, rfl⟩ := okWide_slice Tryd.underlying38 hval
  obtain ⟨fuel, hf⟩ := h
  simp only [Value.cells] at hf
  rcases Go.Deep.open_slice Tryd.underlying38 hf with ⟨h0, _⟩ | ⟨a', len', cap', m, n, D, Pl, hcs, _, hl, _, hm, _, hel⟩
  · simp at h0
    obtain ⟨rfl, rfl, rfl⟩ := h0
    exact ⟨none, 0, [], rfl, fun i a ha => by simp at ha⟩
  · simp at hcs
    obtain ⟨rfl, rfl, rfl⟩ := hcs
    have hlm : len ≤ m := by rw [hm]; split <;> omega
    have each : ∀ i, i < len → ∃ q : Bool, W.cell? (a'.add i) = some (.bool q) := fun i hi => by
      obtain ⟨cs', h1, h2⟩ := hel i (by omega)
      obtain ⟨q, rfl, _⟩ := DataW.trod_bool Tryd.underlying4 h2
      rw [cells_b] at h1
      obtain ⟨_, _, hc⟩ := World.cells?_some h1
      have := hc 0 (by omega)
      exact ⟨q, by simpa [Addr.add] using this⟩
    obtain ⟨f, hf'⟩ : ∃ f : Nat → Bool, ∀ i, i < len → W.cell? (a'.add i) = some (.bool (f i)) :=
      ⟨fun i => if h : i < len then Classical.choose (each i h) else false, fun i hi => by simp only [hi, dif_pos]; exact Classical.choose_spec (each i hi)⟩
    refine ⟨some a', cap, (List.range len).map f, by simp, fun i q hq => ?_⟩
    have hi : i < len := by have := (List.getElem?_eq_some_iff.1 hq).1; simpa using this
    have hqf : f i = q := by simpa [hi] using hq
    subst hqf
    have hsp : a'.spot = none := by
      have h0 := hf' 0 (by omega)
      cases hs : a'.spot with
      | none => rfl
      | some z =>
        simp [Addr.add, World.cell?, hs] at h0
        split at h0 <;> simp at h0
    obtain ⟨b, o, s⟩ := a'
    simp only at hsp
    subst hsp
    refine ⟨b, o, rfl, ?_⟩
    have := hf' i hi
    unfold Addr.add at this
    by_cases h1 : i = 0 <;> simp [h1] at this ⊢ <;> exact this
end Go.Proofs.YtphcmbdmkhmfbaaDoor
