/- The document's examples (awake). -/
import Derived.Test.YtphcmbdmkhmfbaaDoorSinkF
import Derived.Test.YtphcmbdmkhmfbaaDoorSinkT
import Derived.Test.YtphcmbdmkhmfbaaDoorNil
namespace Go.Proofs.YtphcmbdmkhmfbaaDoor
open Go.RowKit Go.Lib
theorem Snk.ge {T : TypeId} {w : World} {b : Nat} {v : Value} {l : List UInt8} {f : Bool} {x y z : Int} (h : Snk T w b v l f x y z) : ∀ k, Own b v k → b ≤ k := fun k hk => by
  rcases hk with hk | hk
  · omega
  · have := (h.buf.lt k hk).1; omega
/-- A call on a sink that lies from B on turns nothing below B. -/
theorem bcall {T : TypeId} {B : Nat} {w0 w w' : World} {b : Nat} {v : Value} {l : List UInt8} {f : Bool} {x y z : Int} (h : Below B w0 w) (hB : B ≤ w0.heap.size) (s : Snk T w b v l f x y z) (hb : B ≤ b) (k : Kept (Own b v) w w') : Below B w0 w' :=
  h.trans (k.below (by have := h.size; omega) (fun i hi => by have := s.ge i hi; omega))
theorem wid_a : wid [97] = 1 := by
  unfold wid
  rw [pts_step [97] (by simp)]
  have h : decodeL [97] = (97, 1) := by decide
  rw [h]
  simp [pts_nil, sumW]
  decide
theorem wid_b : wid [98] = 1 := by
  unfold wid
  rw [pts_step [98] (by simp)]
  have h : decodeL [98] = (98, 1) := by decide
  rw [h]
  simp [pts_nil, sumW]
  decide
theorem col_a (c : Int) : colAfter ⟨#[97]⟩ c = c + 1 := by
  have h1 : nlAt ⟨#[97]⟩ (ByteArray.size ⟨#[97]⟩) = 0 := by decide
  have h2 : fromAt ⟨#[97]⟩ (ByteArray.size ⟨#[97]⟩) = 0 := by decide
  unfold colAfter
  rw [h1, h2]
  simp [wid_a]
theorem col_b (c : Int) : colAfter ⟨#[98]⟩ c = c + 1 := by
  have h1 : nlAt ⟨#[98]⟩ (ByteArray.size ⟨#[98]⟩) = 0 := by decide
  have h2 : fromAt ⟨#[98]⟩ (ByteArray.size ⟨#[98]⟩) = 0 := by decide
  unfold colAfter
  rw [h1, h2]
  simp [wid_b]
set_option maxHeartbeats 4000000 in
theorem awake_true (w : World) (hT : Tabs w) (hg1 : 0 < w.heap.size) (hg2 : 1 < w.heap.size) : Calls Tryd.prog 19 #[] w fun e w' => e = .returned (.bool true) ∧ Below w.heap.size w w' := by
  have hT := Lib.hid hT
  go_enter Tryd.func19, Tryd.ntmps19
  go_wp2_with fail
  refine (sk_New w).mono ?_
  rintro e w1 ⟨rfl, s1, b1⟩
  replace s1 := Lib.hid s1; replace b1 := Lib.hid b1
  go_wp2_with fail
  refine (sk_Text w.heap.size _ [] false 0 0 0 ⟨#[97]⟩ w1 s1.out (by decide) (by decide) (by decide) (hT.out.below b1.out) hg1 hg2).mono ?_
  rintro e w2 ⟨rfl, ⟨v2, s2, _⟩, k2⟩
  replace b1 := Lib.hid (bcall b1.out (Nat.le_refl _) s1.out (Nat.le_refl _) k2)
  rw [col_a] at s2
  simp only [padOf, Bool.not_false, if_true, List.replicate_zero, List.nil_append, List.append_nil] at s2
  replace s2 := Lib.hid s2
  clear s1 k2
  go_wp2_with fail
  refine (sk_Blanks _ _ _ _ _ _ _ 2 w2 s2.out (by decide)).mono ?_
  rintro e w3 ⟨hin, _, k3⟩
  obtain ⟨rfl, s3⟩ := hin (by decide)
  replace b1 := Lib.hid (bcall b1.out (Nat.le_refl _) s2.out (Nat.le_refl _) k3)
  replace s3 := Lib.hid s3
  clear s2 k3 hin
  go_wp2_with fail
  refine (sk_Column _ _ _ _ _ _ _ w3 s3.out (by decide) (by decide) (by decide)).mono ?_
  rintro e w4 ⟨rfl, k4, s4⟩
  replace b1 := Lib.hid (bcall b1.out (Nat.le_refl _) s3.out (Nat.le_refl _) k4)
  replace s4 := Lib.hid s4
  clear s3 k4
  go_wp2_with fail
  refine (sk_Feed _ _ _ _ _ _ _ 3 w4 s4.out (by decide)).mono ?_
  rintro e w5 ⟨hin, _, k5⟩
  obtain ⟨rfl, v5, s5, _⟩ := hin (by decide)
  replace b1 := Lib.hid (bcall b1.out (Nat.le_refl _) s4.out (Nat.le_refl _) k5)
  replace s5 := Lib.hid s5
  clear s4 k5 hin
  go_wp2_with fail
  refine (sk_Fresh _ _ _ _ _ _ _ w5 s5.out).mono ?_
  rintro e w6 ⟨rfl, k6, s6⟩
  replace b1 := Lib.hid (bcall b1.out (Nat.le_refl _) s5.out (Nat.le_refl _) k6)
  replace s6 := Lib.hid s6
  clear s5 k6
  go_wp2_with fail
  refine (sk_Text w.heap.size _ _ false 3 0 0 ⟨#[98]⟩ w6 s6.out (by decide) (by decide) (by decide) (hT.out.below b1.out) hg1 hg2).mono ?_
  rintro e w7 ⟨rfl, ⟨v7, s7, _⟩, k7⟩
  replace b1 := Lib.hid (bcall b1.out (Nat.le_refl _) s6.out (Nat.le_refl _) k7)
  rw [col_b] at s7
  replace s7 := Lib.hid s7
  clear s6 k7
  go_wp2_with fail
  refine (sk_Take _ _ _ _ _ _ _ w7 s7.out).mono ?_
  rintro e w8 ⟨rfl, k8, s8⟩
  replace b1 := Lib.hid (bcall b1.out (Nat.le_refl _) s7.out (Nat.le_refl _) k8)
  replace s8 := Lib.hid s8
  clear s7 k8
  go_wp2_with fail
  refine (sk_Column _ _ _ _ _ _ _ w8 s8.out (by decide) (by decide) (by decide)).mono ?_
  rintro e w9 ⟨rfl, k9, s9⟩
  replace b1 := Lib.hid (bcall b1.out (Nat.le_refl _) s8.out (Nat.le_refl _) k9)
  clear s8 s9 k9
  go_wp2_with fail
  go_ret
  exact ⟨rfl, b1.out⟩
end Go.Proofs.YtphcmbdmkhmfbaaDoor
