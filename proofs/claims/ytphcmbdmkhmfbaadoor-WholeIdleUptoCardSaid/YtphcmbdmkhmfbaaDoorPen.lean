/- The calls on the program's sink, each told by what the sink holds (Pen, dPn). -/
import Derived.Test.YtphcmbdmkhmfbaaDoorOne
import Derived.Test.YtphcmbdmkhmfbaaDoorDoes
namespace Go.Proofs.YtphcmbdmkhmfbaaDoor
open Go.RowKit Go.Lib
theorem pen_Text (s : Nat) (vs : Value) (p : Pn) (U : Nat) (t : ByteArray) (w : World) (D : Pen w s vs p U) (hU : U + t.size ≤ 17179869184) (hT : Tabs w) (hg1 : 0 < s) (hg2 : 1 < s) :
    Calls Tryd.prog 12 #[.pointer (some ⟨s, 0, none⟩), .string t] w fun e w' => e = .returned (.int .i64 0) ∧ ∃ vs', Pen w' s vs' (dPn ⟨1, false, t, 0⟩ p) (U + t.size) ∧ Next w vs vs' ∧ Kept (Own s vs) w w' := by
  have hroom := D.room; have hcol := D.col; have hind := D.ind
  by_cases ht : t.size = 0
  · have ht0 : t = ⟨#[]⟩ := by cases t with | mk d => simp [ByteArray.size] at ht; subst ht; rfl
    subst ht0
    refine (sk_Text0 s w).mono fun e w' ⟨h1, h2⟩ => ⟨h1, vs, ?_, Next.refl _ _, Kept.of_below h2⟩
    have e1 : dPn ⟨1, false, ⟨#[]⟩, 0⟩ p = p := by unfold dPn dStep; simp [ByteArray.size]
    rw [e1]
    exact (D.below h2).mono (by omega)
  · have hfx : (if p.f then 0 else p.x) ≤ p.x := by split <;> omega
    have hy0 : (0 : Int) ≤ (if p.f then (p.y : Int) else p.x) + p.z := by split <;> omega
    obtain ⟨Y, hY⟩ : ∃ Y : Nat, colAfter t ((if p.f then (p.y : Int) else p.x) + p.z) = Y := ⟨(colAfter t ((if p.f then (p.y : Int) else p.x) + p.z)).toNat, by have := (colAfter_le t _ hy0).1; omega⟩
    have hYb : (Y : Int) ≤ (if p.f then (p.y : Int) else p.x) + p.z + 2 * t.size := by rw [← hY]; exact (colAfter_le t _ hy0).2
    have hYc : Y ≤ 2 * (U + t.size) + 1048576 := by
      cases hf : p.f <;> simp [hf] at hroom hYb <;> omega
    have e1 : dPn ⟨1, false, t, 0⟩ p = ⟨p.l ++ (padOf (!p.f) p.x ++ List.replicate p.z 32 ++ t.data.toList), true, p.x, Y, 0⟩ := by unfold dPn dStep; simp [ht, hY]
    rw [e1]
    refine (sk_Text s vs p.l p.f p.x p.y p.z t w D.sk ht (by omega) (by omega) hT hg1 hg2).mono fun e w' ⟨h1, ⟨v', h2, h3⟩, h4⟩ => ⟨h1, v', ⟨?_, ?_, ?_, hind⟩, h3, h4⟩
    · rw [hY] at h2
      simpa [List.append_assoc] using h2
    · have h2 : t.data.toList.length = t.size := Array.length_toList
      simp only [List.length_append, List.length_replicate, h2, padOf]
      cases hf : p.f <;> simp [hf] at hroom ⊢ <;> omega
    · show Y + 0 ≤ _; omega
theorem pen_Blanks (s : Nat) (vs : Value) (p : Pn) (U : Nat) (n : Int) (w : World) (D : Pen w s vs p U) (hU : U ≤ 17179869184) (hn : 0 ≤ n ∧ n ≤ 1048576) :
    Calls Tryd.prog 13 #[.pointer (some ⟨s, 0, none⟩), .int .i64 n] w fun e w' => e = .returned (.int .i64 0) ∧ Pen w' s vs (dPn ⟨2, false, ⟨#[]⟩, n⟩ p) (U + n.toNat) ∧ Kept (Own s vs) w w' := by
  have hroom := D.room; have hcol := D.col; have hind := D.ind
  have e1 : dPn ⟨2, false, ⟨#[]⟩, n⟩ p = ⟨p.l, p.f, p.x, p.y, p.z + n.toNat⟩ := by unfold dPn dStep; simp [hn]
  rw [e1]
  refine (sk_Blanks s vs p.l p.f p.x p.y p.z n w D.sk (by omega)).mono fun e w' ⟨h1, _, h3⟩ => ⟨(h1 hn).1, ⟨?_, ?_, ?_, hind⟩, h3⟩
  · have := (h1 hn).2
    have hz : ((p.z + n.toNat : Nat) : Int) = p.z + n := by omega
    rw [hz]; exact this
  · simp only; omega
  · simp only; omega
theorem pen_Feed (s : Nat) (vs : Value) (p : Pn) (U : Nat) (n : Nat) (w : World) (D : Pen w s vs p U) (hU : U ≤ 17179869184) (hn : n ≤ 1048576) :
    Calls Tryd.prog 14 #[.pointer (some ⟨s, 0, none⟩), .int .i64 n] w fun e w' => e = .returned (.int .i64 0) ∧ ∃ vs', Pen w' s vs' (dPn ⟨3, false, ⟨#[]⟩, n⟩ p) (U + n + 1) ∧ Next w vs vs' ∧ Kept (Own s vs) w w' := by
  have hroom := D.room; have hcol := D.col; have hind := D.ind
  have hn' : 0 ≤ (n : Int) ∧ (n : Int) ≤ 1048576 := by omega
  have e1 : dPn ⟨3, false, ⟨#[]⟩, n⟩ p = ⟨p.l ++ [10], false, n, 0, 0⟩ := by unfold dPn dStep; simp [hn'.2]
  rw [e1]
  refine (sk_Feed s vs p.l p.f p.x p.y p.z n w D.sk (by omega)).mono fun e w' ⟨h1, _, h3⟩ => ?_
  obtain ⟨g1, v', g2, g3⟩ := h1 hn'
  exact ⟨g1, v', ⟨g2, by simp; omega, by simp, hn⟩, g3, h3⟩
theorem pen_Empty (s : Nat) (vs : Value) (p : Pn) (U : Nat) (w : World) (D : Pen w s vs p U) (hU : U ≤ 17179869184) :
    Calls Tryd.prog 15 #[.pointer (some ⟨s, 0, none⟩)] w fun e w' => e = .returned (.int .i64 0) ∧ ∃ vs', Pen w' s vs' (dPn ⟨4, false, ⟨#[]⟩, 0⟩ p) (U + 1) ∧ Next w vs vs' ∧ Kept (Own s vs) w w' := by
  have hroom := D.room; have hcol := D.col; have hind := D.ind
  refine (sk_Empty s vs p.l p.f p.x p.y p.z w D.sk (by omega) (by omega)).mono fun e w' ⟨h0, h1, h2, h3⟩ => ?_
  cases hf : p.f
  · obtain ⟨v', g2, g3⟩ := h1 hf
    have e1 : dPn ⟨4, false, ⟨#[]⟩, 0⟩ p = ⟨p.l ++ [10], false, p.x, 0, 0⟩ := by unfold dPn dStep; simp [hf]
    rw [e1]
    exact ⟨h0, v', ⟨g2, by simp [hf] at hroom ⊢; omega, by simp, hind⟩, g3, h3⟩
  · have e1 : dPn ⟨4, false, ⟨#[]⟩, 0⟩ p = p := by unfold dPn dStep; simp [hf]; rw [← hf]
    rw [e1]
    exact ⟨h0, vs, ⟨h2 hf, by omega, by omega, hind⟩, Next.refl _ _, h3⟩
end Go.Proofs.YtphcmbdmkhmfbaaDoor
