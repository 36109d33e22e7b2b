/- utf8.FullRuneInString and char.Whole, over the tables of package utf8. Condition on memory: they lie as laid. -/
import Derived.Test.YtgjlpkocieffeaaDoorFullP
import Derived.Test.YtgjlpkocieffeaaDoorHeap
import Derived.Test.YtgjlpkocieffeaaDoorChar
import Derived.Deep.QuietTactic
import Derived.BigQuiet
import Derived.Lib.Hide
namespace Go.Proofs.YtgjlpkocieffeaaDoor
open Go.RowKit Go.Lib
def firstL : List Int := List.replicate 128 240 ++ List.replicate 66 241 ++ List.replicate 30 2 ++ [19] ++ List.replicate 12 3 ++ [35, 3, 3, 52, 4, 4, 4, 68] ++ List.replicate 11 241
def accL : List Int := [128, 191, 160, 191, 128, 159, 144, 191, 128, 143] ++ List.replicate 22 0
/-- The tables of package utf8 lie as the library's text lays them. -/
structure Utfs (w : World) : Prop where
  f : w.rangeAt 0 0 (firstL.map (Value.int .u8))
  a : w.rangeAt 1 0 (accL.map (Value.int .u8))
theorem range_keep {w w' : World} {b : Nat} {cs : List Value} (h : w.rangeAt b 0 cs) (hb : Below w.heap.size w w') : w'.rangeAt b 0 cs := by
  intro j v hj
  have hc := h j v hj
  have hlt : b < w.heap.size := by
    unfold World.cell? at hc
    rcases Nat.lt_or_ge b w.heap.size with h | h
    · exact h
    · simp [Array.getElem?_eq_none h] at hc
  exact (hb.cell (p := ⟨b, 0 + j, none⟩) hlt).trans hc
theorem Utfs.below {w w' : World} (h : Utfs w) (hb : Below w.heap.size w w') : Utfs w' := ⟨range_keep h.f hb, range_keep h.a hb⟩
theorem first_cases : ∀ b : Fin 256, (firstL.getD b.val 0 = 240 ∧ b.val ≤ 127) ∨ (firstL.getD b.val 0 = 241 ∧ longN b.val = 0) ∨ (firstL.getD b.val 0 = 2 ∧ 194 ≤ b.val ∧ b.val ≤ 223) ∨ (firstL.getD b.val 0 = 19 ∧ b.val = 224) ∨
    (firstL.getD b.val 0 = 3 ∧ (225 ≤ b.val ∧ b.val ≤ 239 ∧ b.val ≠ 237)) ∨ (firstL.getD b.val 0 = 35 ∧ b.val = 237) ∨ (firstL.getD b.val 0 = 52 ∧ b.val = 240) ∨ (firstL.getD b.val 0 = 4 ∧ 241 ≤ b.val ∧ b.val ≤ 243) ∨ (firstL.getD b.val 0 = 68 ∧ b.val = 244) := by decide +kernel
theorem first_len : firstL.length = 256 := by decide +kernel
theorem Utfs.first {w : World} (h : Utfs w) (b : Nat) (hb : b < 256) : w.cell? ⟨0, b, none⟩ = some (.int .u8 (firstL.getD b 0)) := by
  have := h.f b (.int .u8 (firstL.getD b 0)) (by rw [List.getElem?_map, List.getD_eq_getElem?_getD, List.getElem?_eq_getElem (by rw [first_len]; exact hb)]; rfl)
  rwa [Nat.zero_add] at this
theorem Utfs.acc {w : World} (h : Utfs w) (i : Nat) (x : Int) (hx : accL[i]? = some x) : w.cell? ⟨1, i, none⟩ = some (.int .u8 x) := by
  have := h.a i (.int .u8 x) (by rw [List.getElem?_map, hx]; rfl)
  rwa [Nat.zero_add] at this
theorem full_at (s : ByteArray) : fullL s.data.toList = fullN s.size (byteAt s 0) (byteAt s 1) (byteAt s 2) := by
  unfold fullL; rw [size_len]; rfl
theorem full_true {n b0 b1 b2 : Nat} (h0 : 0 < n) (h : longN b0 ≤ n ∨ (1 < n ∧ okAt b0 1 b1 = false) ∨ (2 < n ∧ okAt b0 2 b2 = false)) : fullN n b0 b1 b2 = true := by
  unfold fullN
  simp only [Bool.and_eq_true, Bool.or_eq_true, decide_eq_true_eq, Bool.not_eq_true']
  exact ⟨h0, by rcases h with h | h | h
                · exact .inl (.inl h)
                · exact .inl (.inr h)
                · exact .inr h⟩
theorem full_false {n b0 b1 b2 : Nat} (h1 : n < longN b0) (h2 : 1 < n → okAt b0 1 b1 = true) (h3 : 2 < n → okAt b0 2 b2 = true) : fullN n b0 b1 b2 = false := by
  cases h : fullN n b0 b1 b2 with
  | false => rfl
  | true =>
    unfold fullN at h
    simp only [Bool.and_eq_true, Bool.or_eq_true, decide_eq_true_eq, Bool.not_eq_true'] at h
    rcases h.2 with (h | h) | h
    · omega
    · rw [h2 h.1] at h; exact absurd h.2 (by simp)
    · rw [h3 h.1] at h; exact absurd h.2 (by simp)
theorem ok1_no {f b : Nat} (h : ¬ (128 ≤ b ∧ b ≤ 191 ∧ secP f b)) : okAt f 1 b = false := by
  cases c : okAt f 1 b with
  | false => rfl
  | true => have := (okAt_eq f 1 b).1 c; exact absurd ⟨this.1, this.2.1, (secB_iff f b this.1 this.2.1).1 (this.2.2 rfl)⟩ h
theorem ok2_no {f b : Nat} (h : ¬ (128 ≤ b ∧ b ≤ 191)) : okAt f 2 b = false := by
  cases c : okAt f 2 b with
  | false => rfl
  | true => have := (okAt_eq f 2 b).1 c; exact absurd ⟨this.1, this.2.1⟩ h
theorem bel1 (w : World) (o : Obj) : Below w.heap.size w (w.alloc o) := (Below.refl _ _).alloc (Nat.le_refl _) _
theorem bel3 (w : World) (o : Obj) (n : Nat) : Below w.heap.size w ((w.alloc o).drewN n) := ((Below.refl _ _).alloc (Nat.le_refl _) _).trans ⟨rfl, rfl, rfl, Nat.le_refl _, fun _ _ => rfl⟩
set_option maxHeartbeats 16000000 in
set_option maxRecDepth 100000 in
theorem full_rune (s : ByteArray) (w : World) (hT : Utfs w) (hs : s.size < 4611686018427387904) :
    Calls Tryd.prog 7 #[.string s] w fun e w' => e = .returned (.bool (fullL s.data.toList)) ∧ Below w.heap.size w w' := by
  rw [full_at]
  by_cases h0 : s.size = 0
  · have hv : Hid (fullN s.size (byteAt s 0) (byteAt s 1) (byteAt s 2) = false) := Lib.hid (by unfold fullN; rw [h0]; rfl)
    rw [hv.out]
    have h0I : (s.size : Int) = 0 := by omega
    go_enter Tryd.func7, Tryd.ntmps7
    go_wp2_with fail
    go_ret
    exact ⟨rfl, Below.refl _ _⟩
  have hn0 : ¬ ((s.size : Int) = 0) := by omega
  have hn1 : (1 : Int) ≤ (s.size : Int) := by omega
  have hb := byteAt_lt s 0
  have hF := hT.first (byteAt s 0) hb
  rcases first_cases ⟨byteAt s 0, hb⟩ with h | h | h | h | h | h | h | h | h
  · have hb0 := h.2
    have h1 := h.1
    simp only at h1 hb0
    rw [h1] at hF
    have hv : Hid (fullN s.size (byteAt s 0) (byteAt s 1) (byteAt s 2) = true) := Lib.hid (full_true (by omega) (.inl (by rcases long_cases (byteAt s 0) with c | c | c | c | c <;> omega)))
    rw [hv.out]
    clear h h1
    go_enter Tryd.func7, Tryd.ntmps7
    go_wp2_with fail
    go_ret
    exact ⟨rfl, Below.refl _ _⟩
  · have hb0 := h.2
    have h1 := h.1
    simp only at h1 hb0
    rw [h1] at hF
    have hv : Hid (fullN s.size (byteAt s 0) (byteAt s 1) (byteAt s 2) = true) := Lib.hid (full_true (by omega) (.inl (by omega)))
    rw [hv.out]
    clear h h1
    go_enter Tryd.func7, Tryd.ntmps7
    go_wp2_with fail
    go_ret
    exact ⟨rfl, Below.refl _ _⟩
  · -- 2: 2 bytes
    have hb0 := h.2
    have h1 := h.1
    clear h
    simp only at h1 hb0
    rw [h1] at hF
    have hlo := hT.acc 0 128 rfl
    have hhi := hT.acc 1 191 rfl
    have hl : longN (byteAt s 0) = 2 := by rcases long_cases (byteAt s 0) with c | c | c | c | c <;> omega
    clear h1
    by_cases c2 : 2 ≤ s.size
    · have cI : (2 : Int) ≤ (s.size : Int) := by omega
      have hv : Hid (fullN s.size (byteAt s 0) (byteAt s 1) (byteAt s 2) = true) := Lib.hid (full_true (by omega) (.inl (by omega)))
      rw [hv.out]
      go_enter Tryd.func7, Tryd.ntmps7
      go_wp2_with fail
      go_ret
      exact ⟨rfl, by first | exact Below.refl _ _ | exact bel1 _ _ | exact bel3 _ _ 0⟩
    have eI : (s.size : Int) = 1 := by omega
    have hv : Hid (fullN s.size (byteAt s 0) (byteAt s 1) (byteAt s 2) = false) := Lib.hid (full_false (by omega) (by omega) (by omega))
    rw [hv.out]
    go_enter Tryd.func7, Tryd.ntmps7
    go_wp2_with fail
    go_quiet (fail)
    go_wp2_with fail
    go_ret
    exact ⟨rfl, bel3 _ _ _⟩
  · -- 19: 3 bytes
    have hb0 := h.2
    have h1 := h.1
    clear h
    simp only at h1 hb0
    rw [h1] at hF
    rw [hb0] at hF
    have hlo := hT.acc 2 160 rfl
    have hhi := hT.acc 3 191 rfl
    have hl : longN (byteAt s 0) = 3 := by rcases long_cases (byteAt s 0) with c | c | c | c | c <;> omega
    clear h1
    by_cases c3 : 3 ≤ s.size
    · have cI : (3 : Int) ≤ (s.size : Int) := by omega
      have hv : Hid (fullN s.size (byteAt s 0) (byteAt s 1) (byteAt s 2) = true) := Lib.hid (full_true (by omega) (.inl (by omega)))
      rw [hv.out]
      go_enter Tryd.func7, Tryd.ntmps7
      go_wp2_with fail
      go_ret
      exact ⟨rfl, by first | exact Below.refl _ _ | exact bel1 _ _ | exact bel3 _ _ 0⟩
    by_cases e1 : s.size = 1
    · have eI : (s.size : Int) = 1 := by omega
      have hv : Hid (fullN s.size (byteAt s 0) (byteAt s 1) (byteAt s 2) = false) := Lib.hid (full_false (by omega) (by omega) (by omega))
      rw [hv.out]
      go_enter Tryd.func7, Tryd.ntmps7
      go_wp2_with fail
      go_quiet (fail)
      go_wp2_with fail
      go_ret
      exact ⟨rfl, bel3 _ _ _⟩
    have eI : (s.size : Int) = 2 := by omega
    by_cases l1 : (byteAt s 1 : Int) < 160
    · have nl : byteAt s 1 < 160 := by omega
      have hv : Hid (fullN s.size (byteAt s 0) (byteAt s 1) (byteAt s 2) = true) := Lib.hid (full_true (by omega) (.inr (.inl ⟨by omega, ok1_no (by unfold secP; omega)⟩)))
      rw [hv.out]
      go_enter Tryd.func7, Tryd.ntmps7
      go_wp2_with fail
      go_quiet (fail)
      go_wp2_with fail
      go_ret
      exact ⟨rfl, bel3 _ _ _⟩
    by_cases l2 : (191 : Int) < (byteAt s 1 : Int)
    · have nl : 191 < byteAt s 1 := by omega
      have hv : Hid (fullN s.size (byteAt s 0) (byteAt s 1) (byteAt s 2) = true) := Lib.hid (full_true (by omega) (.inr (.inl ⟨by omega, ok1_no (by unfold secP; omega)⟩)))
      rw [hv.out]
      go_enter Tryd.func7, Tryd.ntmps7
      go_wp2_with fail
      go_quiet (fail)
      go_wp2_with fail
      go_ret
      exact ⟨rfl, bel3 _ _ _⟩
    have hv : Hid (fullN s.size (byteAt s 0) (byteAt s 1) (byteAt s 2) = false) := Lib.hid (full_false (by omega) (fun _ => secB_of _ _ (by omega) (by omega) (by unfold secP; omega)) (by omega))
    rw [hv.out]
    go_enter Tryd.func7, Tryd.ntmps7
    go_wp2_with fail
    go_quiet (fail)
    go_wp2_with fail
    go_ret
    exact ⟨rfl, bel3 _ _ _⟩
  · -- 3: 3 bytes
    have hb0 := h.2
    have h1 := h.1
    clear h
    simp only at h1 hb0
    rw [h1] at hF
    have hlo := hT.acc 0 128 rfl
    have hhi := hT.acc 1 191 rfl
    have hl : longN (byteAt s 0) = 3 := by rcases long_cases (byteAt s 0) with c | c | c | c | c <;> omega
    clear h1
    by_cases c3 : 3 ≤ s.size
    · have cI : (3 : Int) ≤ (s.size : Int) := by omega
      have hv : Hid (fullN s.size (byteAt s 0) (byteAt s 1) (byteAt s 2) = true) := Lib.hid (full_true (by omega) (.inl (by omega)))
      rw [hv.out]
      go_enter Tryd.func7, Tryd.ntmps7
      go_wp2_with fail
      go_ret
      exact ⟨rfl, by first | exact Below.refl _ _ | exact bel1 _ _ | exact bel3 _ _ 0⟩
    by_cases e1 : s.size = 1
    · have eI : (s.size : Int) = 1 := by omega
      have hv : Hid (fullN s.size (byteAt s 0) (byteAt s 1) (byteAt s 2) = false) := Lib.hid (full_false (by omega) (by omega) (by omega))
      rw [hv.out]
      go_enter Tryd.func7, Tryd.ntmps7
      go_wp2_with fail
      go_quiet (fail)
      go_wp2_with fail
      go_ret
      exact ⟨rfl, bel3 _ _ _⟩
    have eI : (s.size : Int) = 2 := by omega
    by_cases l1 : (byteAt s 1 : Int) < 128
    · have nl : byteAt s 1 < 128 := by omega
      have hv : Hid (fullN s.size (byteAt s 0) (byteAt s 1) (byteAt s 2) = true) := Lib.hid (full_true (by omega) (.inr (.inl ⟨by omega, ok1_no (by unfold secP; omega)⟩)))
      rw [hv.out]
      go_enter Tryd.func7, Tryd.ntmps7
      go_wp2_with fail
      go_quiet (fail)
      go_wp2_with fail
      go_ret
      exact ⟨rfl, bel3 _ _ _⟩
    by_cases l2 : (191 : Int) < (byteAt s 1 : Int)
    · have nl : 191 < byteAt s 1 := by omega
      have hv : Hid (fullN s.size (byteAt s 0) (byteAt s 1) (byteAt s 2) = true) := Lib.hid (full_true (by omega) (.inr (.inl ⟨by omega, ok1_no (by unfold secP; omega)⟩)))
      rw [hv.out]
      go_enter Tryd.func7, Tryd.ntmps7
      go_wp2_with fail
      go_quiet (fail)
      go_wp2_with fail
      go_ret
      exact ⟨rfl, bel3 _ _ _⟩
    have hv : Hid (fullN s.size (byteAt s 0) (byteAt s 1) (byteAt s 2) = false) := Lib.hid (full_false (by omega) (fun _ => secB_of _ _ (by omega) (by omega) (by unfold secP; omega)) (by omega))
    rw [hv.out]
    go_enter Tryd.func7, Tryd.ntmps7
    go_wp2_with fail
    go_quiet (fail)
    go_wp2_with fail
    go_ret
    exact ⟨rfl, bel3 _ _ _⟩
  · -- 35: 3 bytes
    have hb0 := h.2
    have h1 := h.1
    clear h
    simp only at h1 hb0
    rw [h1] at hF
    rw [hb0] at hF
    have hlo := hT.acc 4 128 rfl
    have hhi := hT.acc 5 159 rfl
    have hl : longN (byteAt s 0) = 3 := by rcases long_cases (byteAt s 0) with c | c | c | c | c <;> omega
    clear h1
    by_cases c3 : 3 ≤ s.size
    · have cI : (3 : Int) ≤ (s.size : Int) := by omega
      have hv : Hid (fullN s.size (byteAt s 0) (byteAt s 1) (byteAt s 2) = true) := Lib.hid (full_true (by omega) (.inl (by omega)))
      rw [hv.out]
      go_enter Tryd.func7, Tryd.ntmps7
      go_wp2_with fail
      go_ret
      exact ⟨rfl, by first | exact Below.refl _ _ | exact bel1 _ _ | exact bel3 _ _ 0⟩
    by_cases e1 : s.size = 1
    · have eI : (s.size : Int) = 1 := by omega
      have hv : Hid (fullN s.size (byteAt s 0) (byteAt s 1) (byteAt s 2) = false) := Lib.hid (full_false (by omega) (by omega) (by omega))
      rw [hv.out]
      go_enter Tryd.func7, Tryd.ntmps7
      go_wp2_with fail
      go_quiet (fail)
      go_wp2_with fail
      go_ret
      exact ⟨rfl, bel3 _ _ _⟩
    have eI : (s.size : Int) = 2 := by omega
    by_cases l1 : (byteAt s 1 : Int) < 128
    · have nl : byteAt s 1 < 128 := by omega
      have hv : Hid (fullN s.size (byteAt s 0) (byteAt s 1) (byteAt s 2) = true) := Lib.hid (full_true (by omega) (.inr (.inl ⟨by omega, ok1_no (by unfold secP; omega)⟩)))
      rw [hv.out]
      go_enter Tryd.func7, Tryd.ntmps7
      go_wp2_with fail
      go_quiet (fail)
      go_wp2_with fail
      go_ret
      exact ⟨rfl, bel3 _ _ _⟩
    by_cases l2 : (159 : Int) < (byteAt s 1 : Int)
    · have nl : 159 < byteAt s 1 := by omega
      have hv : Hid (fullN s.size (byteAt s 0) (byteAt s 1) (byteAt s 2) = true) := Lib.hid (full_true (by omega) (.inr (.inl ⟨by omega, ok1_no (by unfold secP; omega)⟩)))
      rw [hv.out]
      go_enter Tryd.func7, Tryd.ntmps7
      go_wp2_with fail
      go_quiet (fail)
      go_wp2_with fail
      go_ret
      exact ⟨rfl, bel3 _ _ _⟩
    have hv : Hid (fullN s.size (byteAt s 0) (byteAt s 1) (byteAt s 2) = false) := Lib.hid (full_false (by omega) (fun _ => secB_of _ _ (by omega) (by omega) (by unfold secP; omega)) (by omega))
    rw [hv.out]
    go_enter Tryd.func7, Tryd.ntmps7
    go_wp2_with fail
    go_quiet (fail)
    go_wp2_with fail
    go_ret
    exact ⟨rfl, bel3 _ _ _⟩
  · -- 52: 4 bytes
    have hb0 := h.2
    have h1 := h.1
    clear h
    simp only at h1 hb0
    rw [h1] at hF
    rw [hb0] at hF
    have hlo := hT.acc 6 144 rfl
    have hhi := hT.acc 7 191 rfl
    have hl : longN (byteAt s 0) = 4 := by rcases long_cases (byteAt s 0) with c | c | c | c | c <;> omega
    clear h1
    by_cases c4 : 4 ≤ s.size
    · have cI : (4 : Int) ≤ (s.size : Int) := by omega
      have hv : Hid (fullN s.size (byteAt s 0) (byteAt s 1) (byteAt s 2) = true) := Lib.hid (full_true (by omega) (.inl (by omega)))
      rw [hv.out]
      go_enter Tryd.func7, Tryd.ntmps7
      go_wp2_with fail
      go_ret
      exact ⟨rfl, by first | exact Below.refl _ _ | exact bel1 _ _ | exact bel3 _ _ 0⟩
    by_cases e1 : s.size = 1
    · have eI : (s.size : Int) = 1 := by omega
      have hv : Hid (fullN s.size (byteAt s 0) (byteAt s 1) (byteAt s 2) = false) := Lib.hid (full_false (by omega) (by omega) (by omega))
      rw [hv.out]
      go_enter Tryd.func7, Tryd.ntmps7
      go_wp2_with fail
      go_quiet (fail)
      go_wp2_with fail
      go_ret
      exact ⟨rfl, bel3 _ _ _⟩
    by_cases e2 : s.size = 2
    · have eI : (s.size : Int) = 2 := by omega
      by_cases l1 : (byteAt s 1 : Int) < 144
      · have nl : byteAt s 1 < 144 := by omega
        have hv : Hid (fullN s.size (byteAt s 0) (byteAt s 1) (byteAt s 2) = true) := Lib.hid (full_true (by omega) (.inr (.inl ⟨by omega, ok1_no (by unfold secP; omega)⟩)))
        rw [hv.out]
        go_enter Tryd.func7, Tryd.ntmps7
        go_wp2_with fail
        go_quiet (fail)
        go_wp2_with fail
        go_ret
        exact ⟨rfl, bel3 _ _ _⟩
      by_cases l2 : (191 : Int) < (byteAt s 1 : Int)
      · have nl : 191 < byteAt s 1 := by omega
        have hv : Hid (fullN s.size (byteAt s 0) (byteAt s 1) (byteAt s 2) = true) := Lib.hid (full_true (by omega) (.inr (.inl ⟨by omega, ok1_no (by unfold secP; omega)⟩)))
        rw [hv.out]
        go_enter Tryd.func7, Tryd.ntmps7
        go_wp2_with fail
        go_quiet (fail)
        go_wp2_with fail
        go_ret
        exact ⟨rfl, bel3 _ _ _⟩
      have hv : Hid (fullN s.size (byteAt s 0) (byteAt s 1) (byteAt s 2) = false) := Lib.hid (full_false (by omega) (fun _ => secB_of _ _ (by omega) (by omega) (by unfold secP; omega)) (by omega))
      rw [hv.out]
      go_enter Tryd.func7, Tryd.ntmps7
      go_wp2_with fail
      go_quiet (fail)
      go_wp2_with fail
      go_ret
      exact ⟨rfl, bel3 _ _ _⟩
    have eI : (s.size : Int) = 3 := by omega
    by_cases l1 : (byteAt s 1 : Int) < 144
    · have nl : byteAt s 1 < 144 := by omega
      have hv : Hid (fullN s.size (byteAt s 0) (byteAt s 1) (byteAt s 2) = true) := Lib.hid (full_true (by omega) (.inr (.inl ⟨by omega, ok1_no (by unfold secP; omega)⟩)))
      rw [hv.out]
      go_enter Tryd.func7, Tryd.ntmps7
      go_wp2_with fail
      go_quiet (fail)
      go_wp2_with fail
      go_ret
      exact ⟨rfl, bel3 _ _ _⟩
    by_cases l2 : (191 : Int) < (byteAt s 1 : Int)
    · have nl : 191 < byteAt s 1 := by omega
      have hv : Hid (fullN s.size (byteAt s 0) (byteAt s 1) (byteAt s 2) = true) := Lib.hid (full_true (by omega) (.inr (.inl ⟨by omega, ok1_no (by unfold secP; omega)⟩)))
      rw [hv.out]
      go_enter Tryd.func7, Tryd.ntmps7
      go_wp2_with fail
      go_quiet (fail)
      go_wp2_with fail
      go_ret
      exact ⟨rfl, bel3 _ _ _⟩
    by_cases m1 : (byteAt s 2 : Int) < 128
    · have nl : byteAt s 2 < 128 := by omega
      have hv : Hid (fullN s.size (byteAt s 0) (byteAt s 1) (byteAt s 2) = true) := Lib.hid (full_true (by omega) (.inr (.inr ⟨by omega, ok2_no (by omega)⟩)))
      rw [hv.out]
      go_enter Tryd.func7, Tryd.ntmps7
      go_wp2_with fail
      go_quiet (fail)
      go_wp2_with fail
      go_ret
      exact ⟨rfl, bel3 _ _ _⟩
    by_cases m2 : (191 : Int) < (byteAt s 2 : Int)
    · have nl : 191 < byteAt s 2 := by omega
      have hv : Hid (fullN s.size (byteAt s 0) (byteAt s 1) (byteAt s 2) = true) := Lib.hid (full_true (by omega) (.inr (.inr ⟨by omega, ok2_no (by omega)⟩)))
      rw [hv.out]
      go_enter Tryd.func7, Tryd.ntmps7
      go_wp2_with fail
      go_quiet (fail)
      go_wp2_with fail
      go_ret
      exact ⟨rfl, bel3 _ _ _⟩
    have hv : Hid (fullN s.size (byteAt s 0) (byteAt s 1) (byteAt s 2) = false) := Lib.hid (full_false (by omega) (fun _ => secB_of _ _ (by omega) (by omega) (by unfold secP; omega)) (fun _ => ok_two _ _ (by omega) (by omega)))
    rw [hv.out]
    go_enter Tryd.func7, Tryd.ntmps7
    go_wp2_with fail
    go_quiet (fail)
    go_wp2_with fail
    go_ret
    exact ⟨rfl, bel3 _ _ _⟩
  · -- 4: 4 bytes
    have hb0 := h.2
    have h1 := h.1
    clear h
    simp only at h1 hb0
    rw [h1] at hF
    have hlo := hT.acc 0 128 rfl
    have hhi := hT.acc 1 191 rfl
    have hl : longN (byteAt s 0) = 4 := by rcases long_cases (byteAt s 0) with c | c | c | c | c <;> omega
    clear h1
    by_cases c4 : 4 ≤ s.size
    · have cI : (4 : Int) ≤ (s.size : Int) := by omega
      have hv : Hid (fullN s.size (byteAt s 0) (byteAt s 1) (byteAt s 2) = true) := Lib.hid (full_true (by omega) (.inl (by omega)))
      rw [hv.out]
      go_enter Tryd.func7, Tryd.ntmps7
      go_wp2_with fail
      go_ret
      exact ⟨rfl, by first | exact Below.refl _ _ | exact bel1 _ _ | exact bel3 _ _ 0⟩
    by_cases e1 : s.size = 1
    · have eI : (s.size : Int) = 1 := by omega
      have hv : Hid (fullN s.size (byteAt s 0) (byteAt s 1) (byteAt s 2) = false) := Lib.hid (full_false (by omega) (by omega) (by omega))
      rw [hv.out]
      go_enter Tryd.func7, Tryd.ntmps7
      go_wp2_with fail
      go_quiet (fail)
      go_wp2_with fail
      go_ret
      exact ⟨rfl, bel3 _ _ _⟩
    by_cases e2 : s.size = 2
    · have eI : (s.size : Int) = 2 := by omega
      by_cases l1 : (byteAt s 1 : Int) < 128
      · have nl : byteAt s 1 < 128 := by omega
        have hv : Hid (fullN s.size (byteAt s 0) (byteAt s 1) (byteAt s 2) = true) := Lib.hid (full_true (by omega) (.inr (.inl ⟨by omega, ok1_no (by unfold secP; omega)⟩)))
        rw [hv.out]
        go_enter Tryd.func7, Tryd.ntmps7
        go_wp2_with fail
        go_quiet (fail)
        go_wp2_with fail
        go_ret
        exact ⟨rfl, bel3 _ _ _⟩
      by_cases l2 : (191 : Int) < (byteAt s 1 : Int)
      · have nl : 191 < byteAt s 1 := by omega
        have hv : Hid (fullN s.size (byteAt s 0) (byteAt s 1) (byteAt s 2) = true) := Lib.hid (full_true (by omega) (.inr (.inl ⟨by omega, ok1_no (by unfold secP; omega)⟩)))
        rw [hv.out]
        go_enter Tryd.func7, Tryd.ntmps7
        go_wp2_with fail
        go_quiet (fail)
        go_wp2_with fail
        go_ret
        exact ⟨rfl, bel3 _ _ _⟩
      have hv : Hid (fullN s.size (byteAt s 0) (byteAt s 1) (byteAt s 2) = false) := Lib.hid (full_false (by omega) (fun _ => secB_of _ _ (by omega) (by omega) (by unfold secP; omega)) (by omega))
      rw [hv.out]
      go_enter Tryd.func7, Tryd.ntmps7
      go_wp2_with fail
      go_quiet (fail)
      go_wp2_with fail
      go_ret
      exact ⟨rfl, bel3 _ _ _⟩
    have eI : (s.size : Int) = 3 := by omega
    by_cases l1 : (byteAt s 1 : Int) < 128
    · have nl : byteAt s 1 < 128 := by omega
      have hv : Hid (fullN s.size (byteAt s 0) (byteAt s 1) (byteAt s 2) = true) := Lib.hid (full_true (by omega) (.inr (.inl ⟨by omega, ok1_no (by unfold secP; omega)⟩)))
      rw [hv.out]
      go_enter Tryd.func7, Tryd.ntmps7
      go_wp2_with fail
      go_quiet (fail)
      go_wp2_with fail
      go_ret
      exact ⟨rfl, bel3 _ _ _⟩
    by_cases l2 : (191 : Int) < (byteAt s 1 : Int)
    · have nl : 191 < byteAt s 1 := by omega
      have hv : Hid (fullN s.size (byteAt s 0) (byteAt s 1) (byteAt s 2) = true) := Lib.hid (full_true (by omega) (.inr (.inl ⟨by omega, ok1_no (by unfold secP; omega)⟩)))
      rw [hv.out]
      go_enter Tryd.func7, Tryd.ntmps7
      go_wp2_with fail
      go_quiet (fail)
      go_wp2_with fail
      go_ret
      exact ⟨rfl, bel3 _ _ _⟩
    by_cases m1 : (byteAt s 2 : Int) < 128
    · have nl : byteAt s 2 < 128 := by omega
      have hv : Hid (fullN s.size (byteAt s 0) (byteAt s 1) (byteAt s 2) = true) := Lib.hid (full_true (by omega) (.inr (.inr ⟨by omega, ok2_no (by omega)⟩)))
      rw [hv.out]
      go_enter Tryd.func7, Tryd.ntmps7
      go_wp2_with fail
      go_quiet (fail)
      go_wp2_with fail
      go_ret
      exact ⟨rfl, bel3 _ _ _⟩
    by_cases m2 : (191 : Int) < (byteAt s 2 : Int)
    · have nl : 191 < byteAt s 2 := by omega
      have hv : Hid (fullN s.size (byteAt s 0) (byteAt s 1) (byteAt s 2) = true) := Lib.hid (full_true (by omega) (.inr (.inr ⟨by omega, ok2_no (by omega)⟩)))
      rw [hv.out]
      go_enter Tryd.func7, Tryd.ntmps7
      go_wp2_with fail
      go_quiet (fail)
      go_wp2_with fail
      go_ret
      exact ⟨rfl, bel3 _ _ _⟩
    have hv : Hid (fullN s.size (byteAt s 0) (byteAt s 1) (byteAt s 2) = false) := Lib.hid (full_false (by omega) (fun _ => secB_of _ _ (by omega) (by omega) (by unfold secP; omega)) (fun _ => ok_two _ _ (by omega) (by omega)))
    rw [hv.out]
    go_enter Tryd.func7, Tryd.ntmps7
    go_wp2_with fail
    go_quiet (fail)
    go_wp2_with fail
    go_ret
    exact ⟨rfl, bel3 _ _ _⟩
  · -- 68: 4 bytes
    have hb0 := h.2
    have h1 := h.1
    clear h
    simp only at h1 hb0
    rw [h1] at hF
    rw [hb0] at hF
    have hlo := hT.acc 8 128 rfl
    have hhi := hT.acc 9 143 rfl
    have hl : longN (byteAt s 0) = 4 := by rcases long_cases (byteAt s 0) with c | c | c | c | c <;> omega
    clear h1
    by_cases c4 : 4 ≤ s.size
    · have cI : (4 : Int) ≤ (s.size : Int) := by omega
      have hv : Hid (fullN s.size (byteAt s 0) (byteAt s 1) (byteAt s 2) = true) := Lib.hid (full_true (by omega) (.inl (by omega)))
      rw [hv.out]
      go_enter Tryd.func7, Tryd.ntmps7
      go_wp2_with fail
      go_ret
      exact ⟨rfl, by first | exact Below.refl _ _ | exact bel1 _ _ | exact bel3 _ _ 0⟩
    by_cases e1 : s.size = 1
    · have eI : (s.size : Int) = 1 := by omega
      have hv : Hid (fullN s.size (byteAt s 0) (byteAt s 1) (byteAt s 2) = false) := Lib.hid (full_false (by omega) (by omega) (by omega))
      rw [hv.out]
      go_enter Tryd.func7, Tryd.ntmps7
      go_wp2_with fail
      go_quiet (fail)
      go_wp2_with fail
      go_ret
      exact ⟨rfl, bel3 _ _ _⟩
    by_cases e2 : s.size = 2
    · have eI : (s.size : Int) = 2 := by omega
      by_cases l1 : (byteAt s 1 : Int) < 128
      · have nl : byteAt s 1 < 128 := by omega
        have hv : Hid (fullN s.size (byteAt s 0) (byteAt s 1) (byteAt s 2) = true) := Lib.hid (full_true (by omega) (.inr (.inl ⟨by omega, ok1_no (by unfold secP; omega)⟩)))
        rw [hv.out]
        go_enter Tryd.func7, Tryd.ntmps7
        go_wp2_with fail
        go_quiet (fail)
        go_wp2_with fail
        go_ret
        exact ⟨rfl, bel3 _ _ _⟩
      by_cases l2 : (143 : Int) < (byteAt s 1 : Int)
      · have nl : 143 < byteAt s 1 := by omega
        have hv : Hid (fullN s.size (byteAt s 0) (byteAt s 1) (byteAt s 2) = true) := Lib.hid (full_true (by omega) (.inr (.inl ⟨by omega, ok1_no (by unfold secP; omega)⟩)))
        rw [hv.out]
        go_enter Tryd.func7, Tryd.ntmps7
        go_wp2_with fail
        go_quiet (fail)
        go_wp2_with fail
        go_ret
        exact ⟨rfl, bel3 _ _ _⟩
      have hv : Hid (fullN s.size (byteAt s 0) (byteAt s 1) (byteAt s 2) = false) := Lib.hid (full_false (by omega) (fun _ => secB_of _ _ (by omega) (by omega) (by unfold secP; omega)) (by omega))
      rw [hv.out]
      go_enter Tryd.func7, Tryd.ntmps7
      go_wp2_with fail
      go_quiet (fail)
      go_wp2_with fail
      go_ret
      exact ⟨rfl, bel3 _ _ _⟩
    have eI : (s.size : Int) = 3 := by omega
    by_cases l1 : (byteAt s 1 : Int) < 128
    · have nl : byteAt s 1 < 128 := by omega
      have hv : Hid (fullN s.size (byteAt s 0) (byteAt s 1) (byteAt s 2) = true) := Lib.hid (full_true (by omega) (.inr (.inl ⟨by omega, ok1_no (by unfold secP; omega)⟩)))
      rw [hv.out]
      go_enter Tryd.func7, Tryd.ntmps7
      go_wp2_with fail
      go_quiet (fail)
      go_wp2_with fail
      go_ret
      exact ⟨rfl, bel3 _ _ _⟩
    by_cases l2 : (143 : Int) < (byteAt s 1 : Int)
    · have nl : 143 < byteAt s 1 := by omega
      have hv : Hid (fullN s.size (byteAt s 0) (byteAt s 1) (byteAt s 2) = true) := Lib.hid (full_true (by omega) (.inr (.inl ⟨by omega, ok1_no (by unfold secP; omega)⟩)))
      rw [hv.out]
      go_enter Tryd.func7, Tryd.ntmps7
      go_wp2_with fail
      go_quiet (fail)
      go_wp2_with fail
      go_ret
      exact ⟨rfl, bel3 _ _ _⟩
    by_cases m1 : (byteAt s 2 : Int) < 128
    · have nl : byteAt s 2 < 128 := by omega
      have hv : Hid (fullN s.size (byteAt s 0) (byteAt s 1) (byteAt s 2) = true) := Lib.hid (full_true (by omega) (.inr (.inr ⟨by omega, ok2_no (by omega)⟩)))
      rw [hv.out]
      go_enter Tryd.func7, Tryd.ntmps7
      go_wp2_with fail
      go_quiet (fail)
      go_wp2_with fail
      go_ret
      exact ⟨rfl, bel3 _ _ _⟩
    by_cases m2 : (191 : Int) < (byteAt s 2 : Int)
    · have nl : 191 < byteAt s 2 := by omega
      have hv : Hid (fullN s.size (byteAt s 0) (byteAt s 1) (byteAt s 2) = true) := Lib.hid (full_true (by omega) (.inr (.inr ⟨by omega, ok2_no (by omega)⟩)))
      rw [hv.out]
      go_enter Tryd.func7, Tryd.ntmps7
      go_wp2_with fail
      go_quiet (fail)
      go_wp2_with fail
      go_ret
      exact ⟨rfl, bel3 _ _ _⟩
    have hv : Hid (fullN s.size (byteAt s 0) (byteAt s 1) (byteAt s 2) = false) := Lib.hid (full_false (by omega) (fun _ => secB_of _ _ (by omega) (by omega) (by unfold secP; omega)) (fun _ => ok_two _ _ (by omega) (by omega)))
    rw [hv.out]
    go_enter Tryd.func7, Tryd.ntmps7
    go_wp2_with fail
    go_quiet (fail)
    go_wp2_with fail
    go_ret
    exact ⟨rfl, bel3 _ _ _⟩
end Go.Proofs.YtgjlpkocieffeaaDoor
