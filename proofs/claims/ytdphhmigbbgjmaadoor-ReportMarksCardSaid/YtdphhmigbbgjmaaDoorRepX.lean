/- What report and its reference read: the tables of widths and of strconv, the handle of the type error; the words of a Fault. -/
import Derived.Test.YtdphhmigbbgjmaaDoorR1
import Derived.Test.YtdphhmigbbgjmaaDoorR4
import Derived.Test.YtdphhmigbbgjmaaDoorM2
import Derived.Test.YtdphhmigbbgjmaaDoorRef03L
import Derived.Test.YtdphhmigbbgjmaaDoorShelf
import Derived.Test.YtdphhmigbbgjmaaDoorLateB
import Derived.Deep.QuietTactic
import Derived.Deep.RegionWith
import Derived.BigQuiet
import Derived.Lib.Hide
import Derived.Lib.AppendIntMem
import Derived.Lib.ItoaLen
namespace Go.Proofs.YtdphhmigbbgjmaaDoor
open Go.RowKit Go.Lib
attribute [local go_sem] byteAt_get wrap64_byteAt
set_option linter.unusedVariables false
set_option linter.unusedSimpArgs false
/-- The tables that package report and its reference read, as they are laid. -/
structure RepW (w : World) : Prop where
  t : Tabs w
  p : Lib.TabIs Tryd.prog w "internal/strconv.uint64pow10" .u64 Lib.pow10Tab
  e : ErrT w
theorem gPow : Tryd.prog.globalNamed "internal/strconv.uint64pow10" = some 8 := by kernel_rfl
theorem RepW.below {w w' : World} (h : RepW w) (hb : Below w.heap.size w w') : RepW w' := ⟨h.t.below hb, (tabBelow_of_tabIs h.p) w' hb, h.e.below hb⟩
def inI (n : Int) : Prop := -9223372036854775808 ≤ n ∧ n ≤ 9223372036854775807
instance (n : Int) : Decidable (inI n) := by unfold inI; infer_instance
def itB (n : Int) : ByteArray := ⟨(Lib.itoa n).toArray⟩
theorem itB_size (n : Int) (h : inI n) : (itB n).size ≤ 21 := by
  have := Lib.itoa_length_le n h.1 h.2; rw [Lib.size_eq]; exact this
theorem itoa_c (n : Int) (h : inI n) (w : World) (hT : RepW w) :
    Calls Tryd.prog 95 #[.int .i64 n] w fun e w' => e = .returned (.string (itB n)) ∧ Below w.heap.size w w' :=
  (Tryd.strconv_Itoa n h.1 h.2 w hT.p).mono fun e w' ⟨h1, k, os, h2⟩ => ⟨h1, by rw [h2]; exact below_grow _ w (Nat.le_refl _) k os⟩
theorem errno_Error (n : Int) (h : inI n) (w : World) (hT : RepW w) :
    Calls Tryd.prog 103 #[.int .i64 n] w fun e w' => e = .returned (.string ((⟨#[101, 114, 114, 111, 114, 32]⟩ : ByteArray) ++ itB n)) ∧ Below w.heap.size w w' := by
  have hz := itB_size n h
  have hq := itoa_c n h w hT
  generalize itB n = B at *
  go_enter Tryd.func103, Tryd.ntmps103
  go_wp2_with fail
  refine hq.mono ?_
  rintro e w1 ⟨rfl, hb⟩
  have hs : ¬ (9223372036854775807 < (⟨#[101, 114, 114, 111, 114, 32]⟩ : ByteArray).size + B.size) := by
    show ¬ (9223372036854775807 < 6 + B.size); omega
  go_wp2_with fail
  go_ret
  exact ⟨rfl, hb⟩
/-- A Fault's own word: its line, its column, its number. -/
def fltB (c l col : Int) : ByteArray := itB l ++ ⟨#[58]⟩ ++ itB col ++ ⟨#[58, 32]⟩ ++ ((⟨#[101, 114, 114, 111, 114, 32]⟩ : ByteArray) ++ itB c)
theorem fltB_size (c l col : Int) (hc : inI c) (hl : inI l) (hco : inI col) : (fltB c l col).size ≤ 80 := by
  have h1 := itB_size c hc; have h2 := itB_size l hl; have h3 := itB_size col hco
  unfold fltB
  simp only [ByteArray.size_append]
  have e1 : (⟨#[58]⟩ : ByteArray).size = 1 := rfl
  have e2 : (⟨#[58, 32]⟩ : ByteArray).size = 2 := rfl
  have e3 : (⟨#[101, 114, 114, 111, 114, 32]⟩ : ByteArray).size = 6 := rfl
  omega
set_option maxHeartbeats 4000000 in
theorem fault_Error (b : Nat) (c a l col : Int) (hc : inI c) (hl : inI l) (hco : inI col) (w : World) (hT : RepW w) (hB : Blk w b #[.int .i64 c, .int .i64 a, .int .i64 l, .int .i64 col] 52) :
    Calls Tryd.prog 55 #[.pointer (some ⟨b, 0, none⟩)] w fun e w' => e = .returned (.string (fltB c l col)) ∧ Below w.heap.size w w' := by
  have z1 := itB_size c hc; have z2 := itB_size l hl; have z3 := itB_size col hco
  have iL : ∀ W, Below w.heap.size w W → Calls Tryd.prog 95 #[.int .i64 l] W fun e w' => e = .returned (.string (itB l)) ∧ Below W.heap.size W w' := fun W h => itoa_c l hl W (hT.below h)
  have iC : ∀ W, Below w.heap.size w W → Calls Tryd.prog 95 #[.int .i64 col] W fun e w' => e = .returned (.string (itB col)) ∧ Below W.heap.size W w' := fun W h => itoa_c col hco W (hT.below h)
  have iE : ∀ W, Below w.heap.size w W → Calls Tryd.prog 103 #[.int .i64 c] W fun e w' => e = .returned (.string ((⟨#[101, 114, 114, 111, 114, 32]⟩ : ByteArray) ++ itB c)) ∧ Below W.heap.size W w' := fun W h => errno_Error c hc W (hT.below h)
  have hb0 := Below.refl w.heap.size w
  have k0 := hB.cell 0; have k1 := hB.cell 1; have k2 := hB.cell 2; have k3 := hB.cell 3
  simp at k0 k1 k2 k3
  have e1 : (⟨#[58]⟩ : ByteArray).size = 1 := rfl
  have e2 : (⟨#[58, 32]⟩ : ByteArray).size = 2 := rfl
  have e3 : (⟨#[101, 114, 114, 111, 114, 32]⟩ : ByteArray).size = 6 := rfl
  have q1 : (9223372036854775807 < (itB l).size + 1) = False := eq_false (by omega)
  have q2 : (9223372036854775807 < (itB l ++ ⟨#[58]⟩).size + (itB col).size) = False := eq_false (by simp only [ByteArray.size_append, e1]; omega)
  have q3 : (9223372036854775807 < (itB l ++ ⟨#[58]⟩ ++ itB col).size + 2) = False := eq_false (by simp only [ByteArray.size_append, e1]; omega)
  have q4 : (9223372036854775807 < (itB l ++ ⟨#[58]⟩ ++ itB col ++ ⟨#[58, 32]⟩).size + ((⟨#[101, 114, 114, 111, 114, 32]⟩ : ByteArray) ++ itB c).size) = False := eq_false (by simp only [ByteArray.size_append, e1, e2, e3]; omega)
  have r2 : (9223372036854775807 < (itB l).size + 1 + (itB col).size) = False := eq_false (by omega)
  have r3 : (9223372036854775807 < (itB l).size + 1 + (itB col).size + 2) = False := eq_false (by omega)
  have r4 : (9223372036854775807 < (itB l).size + 1 + (itB col).size + 2 + ((⟨#[101, 114, 114, 111, 114, 32]⟩ : ByteArray) ++ itB c).size) = False := eq_false (by simp only [ByteArray.size_append, e1, e2, e3]; omega)
  clear e1 e2 e3
  have fin : Hid (fltB c l col = itB l ++ ⟨#[58]⟩ ++ itB col ++ ⟨#[58, 32]⟩ ++ ((⟨#[101, 114, 114, 111, 114, 32]⟩ : ByteArray) ++ itB c)) := Lib.hid rfl
  generalize fltB c l col = R at *
  generalize (⟨#[101, 114, 114, 111, 114, 32]⟩ : ByteArray) ++ itB c = B0 at *
  generalize itB l = B1 at *
  generalize itB col = B2 at *
  clear z1 z2 z3
  replace iL := Lib.hid iL; replace iC := Lib.hid iC; replace iE := Lib.hid iE
  have hlt := hB.lt
  have hS0 : w.drew.cell? ⟨b, 0, none⟩ = some (.int .i64 c) ∧ w.drew.cell? ⟨b, 2, none⟩ = some (.int .i64 l) ∧ w.drew.cell? ⟨b, 3, none⟩ = some (.int .i64 col) ∧ Below w.heap.size w w.drew := ⟨k0, k2, k3, hb0.drew⟩
  have hKeep : ∀ (W W1 : World), (W.cell? ⟨b, 0, none⟩ = some (.int .i64 c) ∧ W.cell? ⟨b, 2, none⟩ = some (.int .i64 l) ∧ W.cell? ⟨b, 3, none⟩ = some (.int .i64 col) ∧ Below w.heap.size w W) → Below W.heap.size W W1 → (W1.cell? ⟨b, 0, none⟩ = some (.int .i64 c) ∧ W1.cell? ⟨b, 2, none⟩ = some (.int .i64 l) ∧ W1.cell? ⟨b, 3, none⟩ = some (.int .i64 col) ∧ Below w.heap.size w W1) := fun W W1 h hb => by
    have hz := h.2.2.2.size
    refine ⟨(hb.cell (p := ⟨b, 0, none⟩) (by show b < _; omega)).trans h.1, (hb.cell (p := ⟨b, 2, none⟩) (by show b < _; omega)).trans h.2.1, (hb.cell (p := ⟨b, 3, none⟩) (by show b < _; omega)).trans h.2.2.1, h.2.2.2.trans (hb.mono hz)⟩
  replace hKeep := Lib.hid hKeep
  go_enter Tryd.func55, Tryd.ntmps55
  go_wp2_with fail
  refine wp_region_late (fun W => W.cell? ⟨b, 0, none⟩ = some (.int .i64 c) ∧ W.cell? ⟨b, 2, none⟩ = some (.int .i64 l) ∧ W.cell? ⟨b, 3, none⟩ = some (.int .i64 col) ∧ Below w.heap.size w W) 21 (by kernel_rfl) (by first | exact hS0 | (dsimp only; exact hS0)) (fun hHeld => ?_)
  refine wpLate_take (i := 0) (v := ?_) rfl (by kernel_rfl) (fun _ _ _ h => h) (Or.inl ⟨by rfl, ?_⟩) hHeld ?_
  rotate_left
  · (intro w hSw; (try dsimp only at hSw); go_simp; try with_reducible rfl)
  simp only [Act.put, List.setIfInBounds_toArray, List.set_cons_zero, List.set_cons_succ]
  refine wpLate_take (i := 1) (v := ?_) rfl (by kernel_rfl) (fun _ _ _ h => h) (Or.inl ⟨by rfl, ?_⟩) hHeld ?_
  rotate_left
  · (intro w hSw; (try dsimp only at hSw); go_simp; try with_reducible rfl)
  simp only [Act.put, List.setIfInBounds_toArray, List.set_cons_zero, List.set_cons_succ]
  refine wpLate_take (i := 2) (v := ?_) rfl (by kernel_rfl) (fun _ _ _ h => h) (Or.inl ⟨by rfl, ?_⟩) hHeld ?_
  rotate_left
  · (intro w hSw; (try dsimp only at hSw); go_simp; try with_reducible rfl)
  simp only [Act.put, List.setIfInBounds_toArray, List.set_cons_zero, List.set_cons_succ]
  refine wpLate_take (i := 3) (v := ?_) rfl (by kernel_rfl) (fun _ _ _ h => h) (Or.inl ⟨by rfl, ?_⟩) hHeld ?_
  rotate_left
  · (intro w hSw; (try dsimp only at hSw); go_simp; try with_reducible rfl)
  simp only [Act.put, List.setIfInBounds_toArray, List.set_cons_zero, List.set_cons_succ]
  refine wpLate_take (i := 4) (v := ?_) rfl (by kernel_rfl) (fun _ _ _ h => h) (Or.inl ⟨by rfl, ?_⟩) hHeld ?_
  rotate_left
  · (intro w hSw; (try dsimp only at hSw); go_simp; try with_reducible rfl)
  simp only [Act.put, List.setIfInBounds_toArray, List.set_cons_zero, List.set_cons_succ]
  refine wpLate_take (i := 7) (v := ?_) rfl (by kernel_rfl) (fun _ _ _ h => h) (Or.inl ⟨by rfl, ?_⟩) hHeld ?_
  rotate_left
  · (intro w hSw; (try dsimp only at hSw); go_simp; try with_reducible rfl)
  simp only [Act.put, List.setIfInBounds_toArray, List.set_cons_zero, List.set_cons_succ]
  refine wpLate_take (i := 8) (v := ?_) rfl (by kernel_rfl) (fun _ _ _ h => h) (Or.inl ⟨by rfl, ?_⟩) hHeld ?_
  rotate_left
  · (intro w hSw; (try dsimp only at hSw); go_simp; try with_reducible rfl)
  simp only [Act.put, List.setIfInBounds_toArray, List.set_cons_zero, List.set_cons_succ]
  refine wpLate_take (i := 9) (v := ?_) rfl (by kernel_rfl) (fun _ _ _ h => h) (Or.inl ⟨by rfl, ?_⟩) hHeld ?_
  rotate_left
  · (intro w hSw; (try dsimp only at hSw); go_simp; try with_reducible rfl)
  simp only [Act.put, List.setIfInBounds_toArray, List.set_cons_zero, List.set_cons_succ]
  refine wpLate_take (i := 10) (v := ?_) rfl (by kernel_rfl) (fun _ _ _ h => h) (Or.inl ⟨by rfl, ?_⟩) hHeld ?_
  rotate_left
  · (intro w hSw; (try dsimp only at hSw); go_simp; try with_reducible rfl)
  simp only [Act.put, List.setIfInBounds_toArray, List.set_cons_zero, List.set_cons_succ]
  refine wpLate_take (i := 11) (v := ?_) rfl (by kernel_rfl) (fun _ _ _ h => h) (Or.inl ⟨by rfl, ?_⟩) hHeld ?_
  rotate_left
  · (intro w hSw; (try dsimp only at hSw); go_simp; try with_reducible rfl)
  simp only [Act.put, List.setIfInBounds_toArray, List.set_cons_zero, List.set_cons_succ]
  refine wpLate_take (i := 15) (v := ?_) rfl (by kernel_rfl) (fun _ _ _ h => h) (Or.inl ⟨by rfl, ?_⟩) hHeld ?_
  rotate_left
  · (intro w hSw; (try dsimp only at hSw); go_simp; try with_reducible rfl)
  simp only [Act.put, List.setIfInBounds_toArray, List.set_cons_zero, List.set_cons_succ]
  refine wpLate_take (i := 16) (v := ?_) rfl (by kernel_rfl) (fun _ _ _ h => h) (Or.inl ⟨by rfl, ?_⟩) hHeld ?_
  rotate_left
  · (intro w hSw; (try dsimp only at hSw); go_simp; try with_reducible rfl)
  simp only [Act.put, List.setIfInBounds_toArray, List.set_cons_zero, List.set_cons_succ]
  refine wpLate_take (i := 17) (v := ?_) rfl (by kernel_rfl) (fun _ _ _ h => h) (Or.inl ⟨by rfl, ?_⟩) hHeld ?_
  rotate_left
  · (intro w hSw; (try dsimp only at hSw); go_simp; try with_reducible rfl)
  simp only [Act.put, List.setIfInBounds_toArray, List.set_cons_zero, List.set_cons_succ]
  refine wpLate_take (i := 18) (v := ?_) rfl (by kernel_rfl) (fun _ _ _ h => h) (Or.inl ⟨by rfl, ?_⟩) hHeld ?_
  rotate_left
  · (intro w hSw; (try dsimp only at hSw); go_simp; try with_reducible rfl)
  simp only [Act.put, List.setIfInBounds_toArray, List.set_cons_zero, List.set_cons_succ]
  refine wpLate_step (i := 5) (by kernel_rfl) rfl (fun K hK => ?_)
  go_simp
  go_at_call 95
  refine (iL.out _ hHeld.2.2.2).mono ?_
  rintro e w1 ⟨rfl, hb⟩
  refine hK.out _ _ ?_ (fun hHeld => ?_)
  · first | exact hKeep.out _ _ hHeld hb | (dsimp only; exact hKeep.out _ _ hHeld hb)
  clear hK K
  try simp only [Act.put, List.setIfInBounds_toArray, List.set_cons_zero, List.set_cons_succ]
  clear hb
  refine wpLate_take (i := 6) (v := ?_) rfl (by kernel_rfl) (fun _ _ _ h => h) (Or.inl ⟨by rfl, ?_⟩) hHeld ?_
  rotate_left
  · (intro w hSw; (try dsimp only at hSw); go_simp; try with_reducible rfl)
  simp only [Act.put, List.setIfInBounds_toArray, List.set_cons_zero, List.set_cons_succ]
  refine wpLate_step (i := 12) (by kernel_rfl) rfl (fun K hK => ?_)
  go_simp
  go_at_call 95
  refine (iC.out _ hHeld.2.2.2).mono ?_
  rintro e w2 ⟨rfl, hb⟩
  refine hK.out _ _ ?_ (fun hHeld => ?_)
  · first | exact hKeep.out _ _ hHeld hb | (dsimp only; exact hKeep.out _ _ hHeld hb)
  clear hK K
  try simp only [Act.put, List.setIfInBounds_toArray, List.set_cons_zero, List.set_cons_succ]
  clear hb
  refine wpLate_take (i := 13) (v := ?_) rfl (by kernel_rfl) (fun _ _ _ h => h) (Or.inl ⟨by rfl, ?_⟩) hHeld ?_
  rotate_left
  · (intro w hSw; (try dsimp only at hSw); go_simp; try with_reducible rfl)
  simp only [Act.put, List.setIfInBounds_toArray, List.set_cons_zero, List.set_cons_succ]
  refine wpLate_take (i := 14) (v := ?_) rfl (by kernel_rfl) (fun _ _ _ h => h) (Or.inl ⟨by rfl, ?_⟩) hHeld ?_
  rotate_left
  · (intro w hSw; (try dsimp only at hSw); go_simp; try with_reducible rfl)
  simp only [Act.put, List.setIfInBounds_toArray, List.set_cons_zero, List.set_cons_succ]
  refine wpLate_step (i := 19) (by kernel_rfl) rfl (fun K hK => ?_)
  go_simp
  go_at_call 103
  refine (iE.out _ hHeld.2.2.2).mono ?_
  rintro e w3 ⟨rfl, hb⟩
  refine hK.out _ _ ?_ (fun hHeld => ?_)
  · first | exact hKeep.out _ _ hHeld hb | (dsimp only; exact hKeep.out _ _ hHeld hb)
  clear hK K
  try simp only [Act.put, List.setIfInBounds_toArray, List.set_cons_zero, List.set_cons_succ]
  clear hb
  refine wpLate_take (i := 20) (v := ?_) rfl (by kernel_rfl) (fun _ _ _ h => h) (Or.inl ⟨by rfl, ?_⟩) hHeld ?_
  rotate_left
  · (intro w hSw; (try dsimp only at hSw); go_simp; try with_reducible rfl)
  simp only [Act.put, List.setIfInBounds_toArray, List.set_cons_zero, List.set_cons_succ]
  refine wpLate_last (by kernel_rfl) rfl (by kernel_rfl) (fun K hK => ?_)
  go_simp
  refine hK.out _ _ ?_
  clear hK K
  go_wp2_with fail
  go_ret
  exact ⟨by rw [fin.out]; rfl, hHeld.2.2.2⟩
/-- The head of what is shown, as the reference puts it together. -/
def hedB (n : ByteArray) (c l col : Int) : ByteArray := n ++ ⟨#[58, 32]⟩ ++ itB l ++ ⟨#[58]⟩ ++ itB col ++ ⟨#[58, 32, 101, 114, 114, 111, 114, 32]⟩ ++ itB c ++ ⟨#[10]⟩
theorem e10_1 : (⟨#[10]⟩ : ByteArray).size = 1 := rfl
theorem hedB_flt (n : ByteArray) (c l col : Int) : n ++ ⟨#[58, 32]⟩ ++ fltB c l col ++ ⟨#[10]⟩ = hedB n c l col := by
  unfold fltB hedB
  apply ByteArray.ext
  simp [ByteArray.data_append, Array.append_assoc]
  rw [show (#[58, 32, 101, 114, 114, 111, 114, 32] : Array UInt8) = #[58, 32] ++ #[101, 114, 114, 111, 114, 32] from rfl, Array.append_assoc]
theorem hedB_size (n : ByteArray) (c l col : Int) (hc : inI c) (hl : inI l) (hco : inI col) : (hedB n c l col).size ≤ n.size + 90 := by
  rw [← hedB_flt, ByteArray.size_append, ByteArray.size_append, ByteArray.size_append]
  have := fltB_size c l col hc hl hco
  have e2 : (⟨#[58, 32]⟩ : ByteArray).size = 2 := rfl
  have e1 := e10_1
  omega
set_option maxHeartbeats 4000000 in
theorem ref20_Head (n : ByteArray) (c a l col : Int) (hn : n.size ≤ 1099511627776) (hc : inI c) (hl : inI l) (hco : inI col) (w : World) (hT : RepW w) :
    Calls Tryd.prog 50 #[.string n, .agg #[.int .i64 c, .int .i64 a, .int .i64 l, .int .i64 col]] w fun e w' => e = .returned (.string (hedB n c l col)) ∧ Below w.heap.size w w' := by
  have z1 := itB_size c hc; have z2 := itB_size l hl; have z3 := itB_size col hco
  have iL : ∀ W, Below w.heap.size w W → Calls Tryd.prog 95 #[.int .i64 l] W fun e w' => e = .returned (.string (itB l)) ∧ Below W.heap.size W w' := fun W h => itoa_c l hl W (hT.below h)
  have iC : ∀ W, Below w.heap.size w W → Calls Tryd.prog 95 #[.int .i64 col] W fun e w' => e = .returned (.string (itB col)) ∧ Below W.heap.size W w' := fun W h => itoa_c col hco W (hT.below h)
  have iE : ∀ W, Below w.heap.size w W → Calls Tryd.prog 95 #[.int .i64 c] W fun e w' => e = .returned (.string (itB c)) ∧ Below W.heap.size W w' := fun W h => itoa_c c hc W (hT.below h)
  have e1 : (⟨#[58]⟩ : ByteArray).size = 1 := rfl
  have e2 : (⟨#[58, 32]⟩ : ByteArray).size = 2 := rfl
  have e3 : (⟨#[58, 32, 101, 114, 114, 111, 114, 32]⟩ : ByteArray).size = 8 := rfl
  have q0 : (9223372036854775807 < n.size + 2) = False := eq_false (by omega)
  have q1 : (9223372036854775807 < (n ++ ⟨#[58, 32]⟩).size + (itB l).size) = False := eq_false (by simp only [ByteArray.size_append, e2]; omega)
  have q2 : (9223372036854775807 < (n ++ ⟨#[58, 32]⟩ ++ itB l).size + 1) = False := eq_false (by simp only [ByteArray.size_append, e2]; omega)
  have q3 : (9223372036854775807 < (n ++ ⟨#[58, 32]⟩ ++ itB l ++ ⟨#[58]⟩).size + (itB col).size) = False := eq_false (by simp only [ByteArray.size_append, e1, e2]; omega)
  have q4 : (9223372036854775807 < (n ++ ⟨#[58, 32]⟩ ++ itB l ++ ⟨#[58]⟩ ++ itB col).size + 8) = False := eq_false (by simp only [ByteArray.size_append, e1, e2]; omega)
  have q5 : (9223372036854775807 < (n ++ ⟨#[58, 32]⟩ ++ itB l ++ ⟨#[58]⟩ ++ itB col ++ ⟨#[58, 32, 101, 114, 114, 111, 114, 32]⟩).size + (itB c).size) = False := eq_false (by simp only [ByteArray.size_append, e1, e2, e3]; omega)
  have q6 : (9223372036854775807 < (n ++ ⟨#[58, 32]⟩ ++ itB l ++ ⟨#[58]⟩ ++ itB col ++ ⟨#[58, 32, 101, 114, 114, 111, 114, 32]⟩ ++ itB c).size + 1) = False := eq_false (by simp only [ByteArray.size_append, e1, e2, e3]; omega)
  have r1 : (9223372036854775807 < n.size + 2 + (itB l).size) = False := eq_false (by omega)
  have r2 : (9223372036854775807 < n.size + 2 + (itB l).size + 1) = False := eq_false (by omega)
  have r3 : (9223372036854775807 < n.size + 2 + (itB l).size + 1 + (itB col).size) = False := eq_false (by omega)
  have r4 : (9223372036854775807 < n.size + 2 + (itB l).size + 1 + (itB col).size + 8) = False := eq_false (by omega)
  have r5 : (9223372036854775807 < n.size + 2 + (itB l).size + 1 + (itB col).size + 8 + (itB c).size) = False := eq_false (by omega)
  have r6 : (9223372036854775807 < n.size + 2 + (itB l).size + 1 + (itB col).size + 8 + (itB c).size + 1) = False := eq_false (by omega)
  have fin : Hid (hedB n c l col = n ++ ⟨#[58, 32]⟩ ++ itB l ++ ⟨#[58]⟩ ++ itB col ++ ⟨#[58, 32, 101, 114, 114, 111, 114, 32]⟩ ++ itB c ++ ⟨#[10]⟩) := Lib.hid rfl
  clear e1 e2 e3
  generalize hedB n c l col = R at *
  generalize itB l = B1 at *
  generalize itB col = B2 at *
  generalize itB c = B0 at *
  clear z1 z2 z3
  replace iL := Lib.hid iL; replace iC := Lib.hid iC; replace iE := Lib.hid iE
  have hq := Lib.hid (Blk.new w #[.int .i64 c, .int .i64 a, .int .i64 l, .int .i64 col] 52)
  have hb0 := (Below.refl w.heap.size w).alloc (Nat.le_refl _) (.cells #[.int .i64 c, .int .i64 a, .int .i64 l, .int .i64 col] 52)
  go_enter Tryd.func50, Tryd.ntmps50
  go_wp2_with fail
  have hlt : w.heap.size < (w.alloc (.cells #[.int .i64 c, .int .i64 a, .int .i64 l, .int .i64 col] 52)).heap.size := by simp
  generalize w.alloc (.cells #[.int .i64 c, .int .i64 a, .int .i64 l, .int .i64 col] 52) = W0 at *
  have k0 := hq.out.cell 0; have k2 := hq.out.cell 2; have k3 := hq.out.cell 3
  simp at k0 k2 k3
  have hS0 : W0.drew.cell? ⟨w.heap.size, 0, none⟩ = some (.int .i64 c) ∧ W0.drew.cell? ⟨w.heap.size, 2, none⟩ = some (.int .i64 l) ∧ W0.drew.cell? ⟨w.heap.size, 3, none⟩ = some (.int .i64 col) ∧ Below w.heap.size w W0.drew ∧ w.heap.size < W0.drew.heap.size := ⟨k0, k2, k3, hb0.drew, hlt⟩
  have hKeep : ∀ (W W1 : World), (W.cell? ⟨w.heap.size, 0, none⟩ = some (.int .i64 c) ∧ W.cell? ⟨w.heap.size, 2, none⟩ = some (.int .i64 l) ∧ W.cell? ⟨w.heap.size, 3, none⟩ = some (.int .i64 col) ∧ Below w.heap.size w W ∧ w.heap.size < W.heap.size) → Below W.heap.size W W1 → (W1.cell? ⟨w.heap.size, 0, none⟩ = some (.int .i64 c) ∧ W1.cell? ⟨w.heap.size, 2, none⟩ = some (.int .i64 l) ∧ W1.cell? ⟨w.heap.size, 3, none⟩ = some (.int .i64 col) ∧ Below w.heap.size w W1 ∧ w.heap.size < W1.heap.size) := fun W W1 h hb => by
    obtain ⟨h0, h2, h3, h4, h5⟩ := h
    have hz := hb.size
    exact ⟨(hb.cell (p := ⟨w.heap.size, 0, none⟩) h5).trans h0, (hb.cell (p := ⟨w.heap.size, 2, none⟩) h5).trans h2, (hb.cell (p := ⟨w.heap.size, 3, none⟩) h5).trans h3, h4.trans (hb.mono h4.size), by omega⟩
  replace hKeep := Lib.hid hKeep
  refine wp_region_late (fun W => W.cell? ⟨w.heap.size, 0, none⟩ = some (.int .i64 c) ∧ W.cell? ⟨w.heap.size, 2, none⟩ = some (.int .i64 l) ∧ W.cell? ⟨w.heap.size, 3, none⟩ = some (.int .i64 col) ∧ Below w.heap.size w W ∧ w.heap.size < W.heap.size) 19 (by kernel_rfl) (by first | exact hS0 | (dsimp only; exact hS0)) (fun hHeld => ?_)
  refine wpLate_take (i := 0) (v := ?_) rfl (by kernel_rfl) (fun _ _ _ h => h) (Or.inl ⟨by rfl, ?_⟩) hHeld ?_
  rotate_left
  · (intro w hSw; (try dsimp only at hSw); go_simp; try with_reducible rfl)
  simp only [Act.put, List.setIfInBounds_toArray, List.set_cons_zero, List.set_cons_succ]
  refine wpLate_take (i := 1) (v := ?_) rfl (by kernel_rfl) (fun _ _ _ h => h) (Or.inl ⟨by rfl, ?_⟩) hHeld ?_
  rotate_left
  · (intro w hSw; (try dsimp only at hSw); go_simp; try with_reducible rfl)
  simp only [Act.put, List.setIfInBounds_toArray, List.set_cons_zero, List.set_cons_succ]
  refine wpLate_take (i := 2) (v := ?_) rfl (by kernel_rfl) (fun _ _ _ h => h) (Or.inl ⟨by rfl, ?_⟩) hHeld ?_
  rotate_left
  · (intro w hSw; (try dsimp only at hSw); go_simp; try with_reducible rfl)
  simp only [Act.put, List.setIfInBounds_toArray, List.set_cons_zero, List.set_cons_succ]
  refine wpLate_take (i := 3) (v := ?_) rfl (by kernel_rfl) (fun _ _ _ h => h) (Or.inl ⟨by rfl, ?_⟩) hHeld ?_
  rotate_left
  · (intro w hSw; (try dsimp only at hSw); go_simp; try with_reducible rfl)
  simp only [Act.put, List.setIfInBounds_toArray, List.set_cons_zero, List.set_cons_succ]
  refine wpLate_take (i := 4) (v := ?_) rfl (by kernel_rfl) (fun _ _ _ h => h) (Or.inl ⟨by rfl, ?_⟩) hHeld ?_
  rotate_left
  · (intro w hSw; (try dsimp only at hSw); go_simp; try with_reducible rfl)
  simp only [Act.put, List.setIfInBounds_toArray, List.set_cons_zero, List.set_cons_succ]
  refine wpLate_take (i := 8) (v := ?_) rfl (by kernel_rfl) (fun _ _ _ h => h) (Or.inl ⟨by rfl, ?_⟩) hHeld ?_
  rotate_left
  · (intro w hSw; (try dsimp only at hSw); go_simp; try with_reducible rfl)
  simp only [Act.put, List.setIfInBounds_toArray, List.set_cons_zero, List.set_cons_succ]
  refine wpLate_take (i := 9) (v := ?_) rfl (by kernel_rfl) (fun _ _ _ h => h) (Or.inl ⟨by rfl, ?_⟩) hHeld ?_
  rotate_left
  · (intro w hSw; (try dsimp only at hSw); go_simp; try with_reducible rfl)
  simp only [Act.put, List.setIfInBounds_toArray, List.set_cons_zero, List.set_cons_succ]
  refine wpLate_take (i := 10) (v := ?_) rfl (by kernel_rfl) (fun _ _ _ h => h) (Or.inl ⟨by rfl, ?_⟩) hHeld ?_
  rotate_left
  · (intro w hSw; (try dsimp only at hSw); go_simp; try with_reducible rfl)
  simp only [Act.put, List.setIfInBounds_toArray, List.set_cons_zero, List.set_cons_succ]
  refine wpLate_take (i := 14) (v := ?_) rfl (by kernel_rfl) (fun _ _ _ h => h) (Or.inl ⟨by rfl, ?_⟩) hHeld ?_
  rotate_left
  · (intro w hSw; (try dsimp only at hSw); go_simp; try with_reducible rfl)
  simp only [Act.put, List.setIfInBounds_toArray, List.set_cons_zero, List.set_cons_succ]
  refine wpLate_take (i := 15) (v := ?_) rfl (by kernel_rfl) (fun _ _ _ h => h) (Or.inl ⟨by rfl, ?_⟩) hHeld ?_
  rotate_left
  · (intro w hSw; (try dsimp only at hSw); go_simp; try with_reducible rfl)
  simp only [Act.put, List.setIfInBounds_toArray, List.set_cons_zero, List.set_cons_succ]
  refine wpLate_step (i := 5) (by kernel_rfl) rfl (fun K hK => ?_)
  go_simp
  go_at_call 95
  refine (iL.out _ hHeld.2.2.2.1).mono ?_
  rintro e w1 ⟨rfl, hb⟩
  refine hK.out _ _ ?_ (fun hHeld => ?_)
  · first | exact hKeep.out _ _ hHeld hb | (dsimp only; exact hKeep.out _ _ hHeld hb)
  clear hK K
  try simp only [Act.put, List.setIfInBounds_toArray, List.set_cons_zero, List.set_cons_succ]
  clear hb
  refine wpLate_take (i := 6) (v := ?_) rfl (by kernel_rfl) (fun _ _ _ h => h) (Or.inl ⟨by rfl, ?_⟩) hHeld ?_
  rotate_left
  · (intro w hSw; (try dsimp only at hSw); go_simp; try with_reducible rfl)
  simp only [Act.put, List.setIfInBounds_toArray, List.set_cons_zero, List.set_cons_succ]
  refine wpLate_take (i := 7) (v := ?_) rfl (by kernel_rfl) (fun _ _ _ h => h) (Or.inl ⟨by rfl, ?_⟩) hHeld ?_
  rotate_left
  · (intro w hSw; (try dsimp only at hSw); go_simp; try with_reducible rfl)
  simp only [Act.put, List.setIfInBounds_toArray, List.set_cons_zero, List.set_cons_succ]
  refine wpLate_step (i := 11) (by kernel_rfl) rfl (fun K hK => ?_)
  go_simp
  go_at_call 95
  refine (iC.out _ hHeld.2.2.2.1).mono ?_
  rintro e w2 ⟨rfl, hb⟩
  refine hK.out _ _ ?_ (fun hHeld => ?_)
  · first | exact hKeep.out _ _ hHeld hb | (dsimp only; exact hKeep.out _ _ hHeld hb)
  clear hK K
  try simp only [Act.put, List.setIfInBounds_toArray, List.set_cons_zero, List.set_cons_succ]
  clear hb
  refine wpLate_take (i := 12) (v := ?_) rfl (by kernel_rfl) (fun _ _ _ h => h) (Or.inl ⟨by rfl, ?_⟩) hHeld ?_
  rotate_left
  · (intro w hSw; (try dsimp only at hSw); go_simp; try with_reducible rfl)
  simp only [Act.put, List.setIfInBounds_toArray, List.set_cons_zero, List.set_cons_succ]
  refine wpLate_take (i := 13) (v := ?_) rfl (by kernel_rfl) (fun _ _ _ h => h) (Or.inl ⟨by rfl, ?_⟩) hHeld ?_
  rotate_left
  · (intro w hSw; (try dsimp only at hSw); go_simp; try with_reducible rfl)
  simp only [Act.put, List.setIfInBounds_toArray, List.set_cons_zero, List.set_cons_succ]
  refine wpLate_step (i := 16) (by kernel_rfl) rfl (fun K hK => ?_)
  go_simp
  go_at_call 95
  refine (iE.out _ hHeld.2.2.2.1).mono ?_
  rintro e w3 ⟨rfl, hb⟩
  refine hK.out _ _ ?_ (fun hHeld => ?_)
  · first | exact hKeep.out _ _ hHeld hb | (dsimp only; exact hKeep.out _ _ hHeld hb)
  clear hK K
  try simp only [Act.put, List.setIfInBounds_toArray, List.set_cons_zero, List.set_cons_succ]
  clear hb
  refine wpLate_take (i := 17) (v := ?_) rfl (by kernel_rfl) (fun _ _ _ h => h) (Or.inl ⟨by rfl, ?_⟩) hHeld ?_
  rotate_left
  · (intro w hSw; (try dsimp only at hSw); go_simp; try with_reducible rfl)
  simp only [Act.put, List.setIfInBounds_toArray, List.set_cons_zero, List.set_cons_succ]
  refine wpLate_take (i := 18) (v := ?_) rfl (by kernel_rfl) (fun _ _ _ h => h) (Or.inl ⟨by rfl, ?_⟩) hHeld ?_
  rotate_left
  · (intro w hSw; (try dsimp only at hSw); go_simp; try with_reducible rfl)
  simp only [Act.put, List.setIfInBounds_toArray, List.set_cons_zero, List.set_cons_succ]
  refine wpLate_last (by kernel_rfl) rfl (by kernel_rfl) (fun K hK => ?_)
  go_simp
  refine hK.out _ _ ?_
  clear hK K
  go_wp2_with fail
  go_ret
  exact ⟨by rw [fin.out]; rfl, hHeld.2.2.2.1⟩
/-! The contracts in the form of the print. -/
def colophonref20_Head.f (a0 : ByteArray) (a1_0 a1_1 a1_2 a1_3 : Int) : Option ByteArray := if a0.size ≤ 1099511627776 ∧ inI a1_0 ∧ inI a1_2 ∧ inI a1_3 then some (hedB a0 a1_0 a1_2 a1_3) else none
theorem colophonref20_Head.calls (a0 : ByteArray) (a1_0 : Int) (a1_1 : Int) (a1_2 : Int) (a1_3 : Int) (r : ByteArray) (w : World) (h : colophonref20_Head.f a0 a1_0 a1_1 a1_2 a1_3 = some r) (hT : RepW w) :
    Calls Tryd.prog 50 #[.string a0, .agg #[.int .i64 a1_0, .int .i64 a1_1, .int .i64 a1_2, .int .i64 a1_3]] w fun e w' => e = .returned (.string r) ∧ Below w.heap.size w w' := by
  unfold colophonref20_Head.f at h
  by_cases hs : a0.size ≤ 1099511627776 ∧ inI a1_0 ∧ inI a1_2 ∧ inI a1_3
  · rw [if_pos hs] at h
    obtain rfl := Option.some.inj h
    exact ref20_Head a0 a1_0 a1_1 a1_2 a1_3 hs.1 hs.2.1 hs.2.2.1 hs.2.2.2 w hT
  · rw [if_neg hs] at h; cases h
def lineT (l : Bs) (n : Int) : ByteArray × Bool := match getLine l n with
  | some x => (⟨x.toArray⟩, true)
  | none => (⟨#[]⟩, false)
theorem lineV_T (l : Bs) (n : Int) : lineV l n = .tuple #[.string (lineT l n).1, .bool (lineT l n).2] := by
  unfold lineV lineT; cases getLine l n <;> rfl
def colophonref03_Line.f (a0 : ByteArray) (a1 : Int) : Option (ByteArray × Bool) := if a0.size < 4611686018427387904 then some (lineT a0.data.toList a1) else none
theorem colophonref03_Line.calls (a0 : ByteArray) (a1 : Int) (r1 : ByteArray) (r2 : Bool) (w : World) (h : colophonref03_Line.f a0 a1 = some (r1, r2)) :
    Calls Tryd.prog 51 #[.string a0, .int .i64 a1] w fun e w' => e = .returned (.tuple #[.string r1, .bool r2]) ∧ Below w.heap.size w w' := by
  unfold colophonref03_Line.f at h
  by_cases hs : a0.size < 4611686018427387904
  · rw [if_pos hs] at h
    have h1 := Option.some.inj h
    refine (r3_Line a0 a1 w hs).mono ?_
    rintro e w' ⟨rfl, rfl⟩
    rw [lineV_T, h1]
    exact ⟨rfl, Below.refl _ _⟩
  · rw [if_neg hs] at h; cases h
def colophonref01_Count.f (a0 : ByteArray) : Option Int := if a0.size * 8 ≤ 140737488351232 then some (cnt a0.data.toList : Int) else none
theorem colophonref01_Count.calls (a0 : ByteArray) (r : Int) (w : World) (h : colophonref01_Count.f a0 = some r) :
    Calls Tryd.prog 52 #[.string a0] w fun e w' => e = .returned (.int .i64 r) ∧ Below w.heap.size w w' := by
  unfold colophonref01_Count.f at h
  by_cases hs : a0.size * 8 ≤ 140737488351232
  · rw [if_pos hs] at h
    obtain rfl := Option.some.inj h
    exact r1_Count a0 w hs
  · rw [if_neg hs] at h; cases h
def colophonref02_Text.f (a0 : ByteArray) : Option Int := if a0.size ≤ 1099511627776 then some (wid a0.data.toList) else none
theorem colophonref02_Text.calls (a0 : ByteArray) (r : Int) (w : World) (h : colophonref02_Text.f a0 = some r) :
    Calls Tryd.prog 97 #[.string a0] w fun e w' => e = .returned (.int .i64 r) ∧ Below w.heap.size w w' := by
  unfold colophonref02_Text.f at h
  by_cases hs : a0.size ≤ 1099511627776
  · rw [if_pos hs] at h
    obtain rfl := Option.some.inj h
    exact r2_Text a0 w hs
  · rw [if_neg hs] at h; cases h
def colophonref01_Next.f (a0 : ByteArray) (a1 : Int) : Option (Int × Int × Bool) := if a0.size < 4611686018427387904 ∧ 0 ≤ a1 ∧ a1 < (a0.size : Int) then some (((Utf8.decode a0 a1.toNat).1 : Int), ((Utf8.decode a0 a1.toNat).2 : Int), okC (Utf8.decode a0 a1.toNat)) else none
theorem colophonref01_Next.calls (a0 : ByteArray) (a1 : Int) (r1 : Int) (r2 : Int) (r3 : Bool) (w : World) (h : colophonref01_Next.f a0 a1 = some (r1, r2, r3)) :
    Calls Tryd.prog 98 #[.string a0, .int .i64 a1] w fun e w' => e = .returned (.tuple #[.int .i64 r1, .int .i64 r2, .bool r3]) ∧ Below w.heap.size w w' := by
  unfold colophonref01_Next.f at h
  by_cases hs : a0.size < 4611686018427387904 ∧ 0 ≤ a1 ∧ a1 < (a0.size : Int)
  · rw [if_pos hs] at h
    obtain ⟨n, rfl⟩ : ∃ n : Nat, a1 = n := ⟨a1.toNat, by omega⟩
    simp only [Int.toNat_natCast, Option.some.injEq, Prod.mk.injEq] at h
    obtain ⟨rfl, rfl, rfl⟩ := h
    refine (r1_Next a0 n w (by omega) hs.1).mono ?_
    rintro e w' ⟨rfl, rfl⟩
    exact ⟨rfl, Below.refl _ _⟩
  · rw [if_neg hs] at h; cases h
end Go.Proofs.YtdphhmigbbgjmaaDoor
