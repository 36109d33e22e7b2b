/- How wide a piece is: press.Of and the reference's Wide. Condition: a text has at most 2^40 bytes. -/
import Derived.Test.YtphcmbdmkhmfbaaDoorDoc
import Derived.Test.YtphcmbdmkhmfbaaDoorRef02
import Derived.Lib.IndexAny
namespace Go.Proofs.YtphcmbdmkhmfbaaDoor
open Go.RowKit Go.Lib
/-- How wide a piece is, where 'far' is wider than any room. -/
def wideAs (far : Int) (d : DocV) : Int :=
  if d.k = 1 then (if nlAt d.t d.t.size = 0 then wid d.t.data.toList else far)
  else if d.k = 2 then 1
  else if d.k = 3 then d.b
  else if d.k = 4 ∨ d.k = 5 then far
  else 0
theorem has_lf (t : ByteArray) : decide (0 ≤ Lib.indexByte t.data.toList 10) = !decide (nlAt t t.size = 0) := by
  rw [← Lib.contains_iff_indexByte, ← countByte_nl]
  unfold Lib.countByte
  obtain ⟨l, hl⟩ : ∃ l, t.data.toList = l := ⟨_, rfl⟩
  rw [hl, List.contains_eq_mem]
  by_cases h : (10 : UInt8) ∈ l
  · have := List.count_pos_iff.2 h
    simp [h]; omega
  · simp [h, List.count_eq_zero]
set_option maxHeartbeats 1000000 in
set_option maxRecDepth 100000 in
theorem press_Of (d : DocV) (w : World) (hT : Tabs w) (ht : d.t.size ≤ 1099511627776) : Calls Tryd.prog 74 #[d.agg] w fun e w' => e = .returned (.int .i64 (wideAs 1048576 d)) ∧ Below w.heap.size w w' := by
  obtain ⟨k, t, b, n, e⟩ := d
  unfold DocV.agg
  simp only at ht ⊢
  have hc := fun W => Tryd.strings_Contains_one t 10 W
  have hb1 : Below w.heap.size w (w.alloc (.cells #[.int .u8 k, .string t, .int .i64 b, .int .i64 n, .bool e] 47)) := (Below.refl _ _).alloc (Nat.le_refl _) _
  have hT1 := hT.below hb1
  have hwT := fun W (h : Tabs W) => width_Text t W ht h
  rw [has_lf] at hc
  replace hT1 := Lib.hid hT1; replace hb1 := Lib.hid hb1; replace hwT := Lib.hid hwT; replace hT := Lib.hid hT
  by_cases k1 : k = 1
  · subst k1
    by_cases hn : nlAt t t.size = 0
    · have hr : wideAs 1048576 ⟨1, t, b, n, e⟩ = wid t.data.toList := by simp [wideAs, hn]
      rw [hr]; clear hr
      rw [hn] at hc
      replace hc := Lib.hid hc; replace hn := Lib.hid hn
      go_enter Tryd.func74, Tryd.ntmps74
      go_wp2_with fail
      refine (hc.out _).mono ?_
      rintro e w1 ⟨rfl, rfl⟩
      go_wp2_with fail
      refine (hwT.out _ hT1.out).mono ?_
      rintro e w2 ⟨rfl, b2⟩
      go_wp2_with fail
      go_ret
      exact ⟨rfl, hb1.out.trans (b2.mono hb1.out.size)⟩
    · have hr : wideAs 1048576 ⟨1, t, b, n, e⟩ = 1048576 := by simp [wideAs, hn]
      rw [hr]; clear hr
      rw [decide_eq_false hn] at hc
      replace hc := Lib.hid hc; replace hn := Lib.hid hn
      go_enter Tryd.func74, Tryd.ntmps74
      go_wp2_with fail
      refine (hc.out _).mono ?_
      rintro e w1 ⟨rfl, rfl⟩
      go_wp2_with fail
      go_ret
      exact ⟨rfl, hb1.out⟩
  obtain ⟨R, hR⟩ : ∃ R, wideAs 1048576 ⟨k, t, b, n, e⟩ = R := ⟨_, rfl⟩
  by_cases k2 : k = 2
  · subst k2
    go_enter Tryd.func74, Tryd.ntmps74
    go_wp2_with fail
    go_ret
    exact ⟨rfl, hb1.out⟩
  by_cases k3 : k = 3
  · subst k3
    go_enter Tryd.func74, Tryd.ntmps74
    go_wp2_with fail
    go_ret
    exact ⟨rfl, hb1.out⟩
  by_cases k4 : k = 4
  · subst k4
    go_enter Tryd.func74, Tryd.ntmps74
    go_wp2_with fail
    go_ret
    exact ⟨rfl, hb1.out⟩
  by_cases k5 : k = 5
  · subst k5
    go_enter Tryd.func74, Tryd.ntmps74
    go_wp2_with fail
    go_ret
    exact ⟨rfl, hb1.out⟩
  have hr : wideAs 1048576 ⟨k, t, b, n, e⟩ = 0 := by simp [wideAs, k1, k2, k3, k4, k5]
  rw [hr]; clear hr hR
  go_enter Tryd.func74, Tryd.ntmps74
  go_wp2_with fail
  go_ret
  exact ⟨rfl, hb1.out⟩
theorem nl_first (t : ByteArray) : ∀ i, nlAt t i = 0 → byteAt t i ≠ 10 → nlAt t (i + 1) = 0 := fun i h h1 => by rw [nlAt, if_neg h1]; exact h
theorem nl_mono (t : ByteArray) : ∀ i j, i ≤ j → nlAt t i ≤ nlAt t j
  | i, 0, h => by have : i = 0 := by omega
                  subst this; exact Nat.le_refl _
  | i, j + 1, h => by
    by_cases e : i = j + 1
    · subst e; exact Nat.le_refl _
    · have := nl_mono t i j (by omega)
      rw [nlAt]; split <;> omega
set_option maxHeartbeats 1000000 in
set_option maxRecDepth 100000 in
theorem r8_Wide (d : DocV) (w : World) (ht : d.t.size ≤ 1099511627776) : Calls Tryd.prog 78 #[d.agg] w fun e w' => e = .returned (.int .i64 (wideAs 1099511627776 d)) ∧ Below w.heap.size w w' := by
  obtain ⟨k, t, b, n, e⟩ := d
  unfold DocV.agg
  simp only at ht ⊢
  have hb1 : Below w.heap.size w (w.alloc (.cells #[.int .u8 k, .string t, .int .i64 b, .int .i64 n, .bool e] 47)) := (Below.refl _ _).alloc (Nat.le_refl _) _
  have hwT := fun W => r2_Text t W ht
  have hB1 := Blk.new w #[.int .u8 k, .string t, .int .i64 b, .int .i64 n, .bool e] 47
  replace hb1 := Lib.hid hb1; replace hwT := Lib.hid hwT
  by_cases k1 : k = 1
  · subst k1
    obtain ⟨W1, hW1⟩ : ∃ W1, w.alloc (.cells #[.int .u8 ((1 : Nat) : Int), .string t, .int .i64 b, .int .i64 n, .bool e] 47) = W1 := ⟨_, rfl⟩
    rw [hW1] at hB1 hb1
    have p0 := hB1.cell 0; have p1 := hB1.cell 1
    simp at p0 p1 hW1
    obtain ⟨R, hR⟩ : ∃ R, wideAs 1099511627776 ⟨1, t, b, n, e⟩ = R := ⟨_, rfl⟩
    rw [hR]
    have hRe : R = if nlAt t t.size = 0 then wid t.data.toList else 1099511627776 := by rw [← hR]; simp [wideAs]
    clear hR
    replace hRe := Lib.hid hRe
    go_enter Tryd.func78, Tryd.ntmps78
    go_wp2_with fail
    go_loopw [3] (fun iv W => ∃ (i : Nat), iv = .int .i64 i ∧ i ≤ t.size ∧ nlAt t i = 0 ∧ W = W1) (fun iv _ => t.size - (RowKit.intOf iv).toNat)
    case atStart => exact ⟨0, rfl, by omega, rfl, rfl⟩
    case round =>
      obtain ⟨i, rfl, hi, hn, rfl⟩ := hrel
      by_cases hlt : i < t.size
      · have hi1 : (i : Int) < t.size := by omega
        have hi2 : (0 : Int) ≤ i := by omega
        have wi : IntKind.i64.wrap ((i : Int) + 1) = i + 1 := IntWalk.i64_in _ (by omega)
        have hmeas : t.size - (RowKit.intOf (.int .i64 ((i : Int) + 1))).toNat < t.size - (RowKit.intOf (.int .i64 (i : Int))).toNat := by simp [RowKit.intOf]; omega
        by_cases h10 : byteAt t i = 10
        · have hq : ((byteAt t i : Int) == 10) = true := by simp; omega
          have h1 : nlAt t (i + 1) ≠ 0 := by rw [nlAt, if_pos h10]; omega
          have h2 := nl_mono t (i + 1) t.size (by omega)
          have hR2 := hRe.out
          rw [if_neg (by omega)] at hR2
          subst hR2
          replace h10 := Lib.hid h10; replace hn := Lib.hid hn; replace h1 := Lib.hid h1
          go_wp2_with fail
          go_ret
          exact ⟨rfl, hb1.out⟩
        · have hq : ((byteAt t i : Int) == 10) = false := by simp; omega
          have h1 := nl_first t i hn h10
          replace h10 := Lib.hid h10; replace hn := Lib.hid hn; replace h1 := Lib.hid h1
          go_wp2_with fail
          exact ⟨⟨i + 1, by go_num, by omega, h1.out, trivial⟩, hmeas⟩
      · have hi1 : ¬ (i : Int) < t.size := by omega
        have he : i = t.size := by omega
        subst he
        have hR2 := hRe.out
        rw [if_pos hn] at hR2
        subst hR2
        replace hn := Lib.hid hn
        go_wp2_with fail
        refine (hwT.out _).mono ?_
        rintro e w2 ⟨rfl, b2⟩
        go_wp2_with fail
        go_ret
        exact ⟨rfl, hb1.out.trans (b2.mono hb1.out.size)⟩
  obtain ⟨R, hR⟩ : ∃ R, wideAs 1099511627776 ⟨k, t, b, n, e⟩ = R := ⟨_, rfl⟩
  by_cases k2 : k = 2
  · subst k2
    go_enter Tryd.func78, Tryd.ntmps78
    go_wp2_with fail
    go_ret
    exact ⟨rfl, hb1.out⟩
  by_cases k3 : k = 3
  · subst k3
    go_enter Tryd.func78, Tryd.ntmps78
    go_wp2_with fail
    go_ret
    exact ⟨rfl, hb1.out⟩
  by_cases k4 : k = 4
  · subst k4
    go_enter Tryd.func78, Tryd.ntmps78
    go_wp2_with fail
    go_ret
    exact ⟨rfl, hb1.out⟩
  by_cases k5 : k = 5
  · subst k5
    go_enter Tryd.func78, Tryd.ntmps78
    go_wp2_with fail
    go_ret
    exact ⟨rfl, hb1.out⟩
  have hr : wideAs 1099511627776 ⟨k, t, b, n, e⟩ = 0 := by simp [wideAs, k1, k2, k3, k4, k5]
  rw [hr]; clear hr hR
  go_enter Tryd.func78, Tryd.ntmps78
  go_wp2_with fail
  go_ret
  exact ⟨rfl, hb1.out⟩
end Go.Proofs.YtphcmbdmkhmfbaaDoor
