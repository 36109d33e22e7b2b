/- The places where characters begin, one behind the other, in plain Lean. No program; no condition. -/
import Derived.Test.YtgjlpkocieffeaaCol
namespace Go.Proofs.Ytgjlpkocieffeaa
open Go.RowKit Go.Lib
theorem offs_chain (s : ByteArray) : ∀ (m p : Nat), CB s p → p + m = s.size → ∀ i (hi : i < (offs (s.data.toList.drop p) p).length), (offs (s.data.toList.drop p) p)[i] < s.size ∧ CB s (offs (s.data.toList.drop p) p)[i] ∧
    ∀ (hj : i + 1 < (offs (s.data.toList.drop p) p).length), (offs (s.data.toList.drop p) p)[i + 1] = (offs (s.data.toList.drop p) p)[i] + (Utf8.decode s (offs (s.data.toList.drop p) p)[i]).2 := by
  intro m
  induction m using Nat.strongRecOn with
  | _ m ih =>
    intro p hcb hm i hi
    by_cases hp : p < s.size
    · have e := offs_at s p hp
      have h1 := dec_pos s p
      have h2 := dec_le s p hp
      have ih' := ih (m - (Utf8.decode s p).2) (by omega) (p + (Utf8.decode s p).2) (CB_step s p hcb hp).1 (by omega)
      simp only [e] at hi ⊢
      cases i with
      | zero =>
        refine ⟨hp, hcb, fun hj => ?_⟩
        simp only [List.getElem_cons_succ, List.getElem_cons_zero, List.length_cons] at hj ⊢
        by_cases hq : p + (Utf8.decode s p).2 < s.size
        · simp only [offs_at s _ hq, List.getElem_cons_zero]
        · rw [offs_end s _ (by omega)] at hj; simp at hj
      | succ i =>
        have := ih' i (by simpa using hi)
        refine ⟨this.1, this.2.1, fun hj => this.2.2 (by simpa using hj)⟩
    · rw [offs_end s p (by omega)] at hi; simp at hi
theorem offs_all (s : ByteArray) (i : Nat) (hi : i < (offs s.data.toList 0).length) : (offs s.data.toList 0)[i] < s.size ∧ CB s (offs s.data.toList 0)[i] ∧
    ∀ (hj : i + 1 < (offs s.data.toList 0).length), (offs s.data.toList 0)[i + 1] = (offs s.data.toList 0)[i] + (Utf8.decode s (offs s.data.toList 0)[i]).2 :=
  offs_chain s s.size 0 (CB_zero s) (by omega) i hi
theorem offs_first (s : ByteArray) (h : 0 < (offs s.data.toList 0).length) : (offs s.data.toList 0)[0] = 0 := by
  by_cases hp : 0 < s.size
  · have e := offs_at s 0 hp
    rw [List.drop_zero] at e
    simp only [e, List.getElem_cons_zero]
  · have := offs_end s 0 (by omega); rw [List.drop_zero] at this; rw [this] at h; simp at h

end Go.Proofs.Ytgjlpkocieffeaa
