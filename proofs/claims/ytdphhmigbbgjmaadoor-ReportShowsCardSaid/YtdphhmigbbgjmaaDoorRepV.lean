/- report.Show of an error that holds no Fault, of a nil Fault, of none: the walks. Conditions: as RepS says. -/
import Derived.Test.YtdphhmigbbgjmaaDoorRepU
namespace Go.Proofs.YtdphhmigbbgjmaaDoor
open Go.RowKit Go.Lib
attribute [local go_sem] byteAt_get wrap64_byteAt
set_option linter.unusedVariables false
set_option linter.unusedSimpArgs false
set_option maxRecDepth 100000 in
set_option maxHeartbeats 8000000 in
theorem report_Show_C (n s : ByteArray) (x0 : ByteArray) (a : Nat) (w : World) (hn : n.size ≤ 1099511627776) (hx0 : x0.size ≤ 1073741824) (hA : w.cell? ⟨a, 0, none⟩ = some (.string x0)) (hT : RepW w) :
    Calls Tryd.prog 29 #[.string n, .string s, .iface 95 (.pointer (some ⟨a, 0, none⟩))] w fun e w' => e = .returned (.string (n ++ ⟨#[58, 32]⟩ ++ x0 ++ ⟨#[10]⟩)) ∧ Below w.heap.size w w' := by
  have hb0 := Below.refl w.heap.size w
  have hTe : ∀ W, Below w.heap.size w W → RepW W := fun W h => hT.below h
  have mE := m_ErrorE (some ⟨a, 0, none⟩)
  have hSE := errS_Error a x0 w hA
  have q0 : (9223372036854775807 < n.size + 2) = False := eq_false (by omega)
  have u1 : (9223372036854775807 < n.size + 2 + x0.size) = False := eq_false (by omega)
  have u2 : (9223372036854775807 < n.size + 2 + x0.size + 1) = False := eq_false (by omega)
  have u1' : (9223372036854775807 < (n ++ ⟨#[58, 32]⟩).size + x0.size) = False := eq_false (by rw [ByteArray.size_append]; show ¬ (9223372036854775807 < n.size + 2 + x0.size); omega)
  have u2' : (9223372036854775807 < (n ++ ⟨#[58, 32]⟩ ++ x0).size + 1) = False := eq_false (by rw [ByteArray.size_append, ByteArray.size_append]; show ¬ (9223372036854775807 < n.size + 2 + x0.size + 1); omega)
  replace hTe := Lib.hid hTe
  clear hT
  go_enter Tryd.func29, Tryd.ntmps29
  go_wp2_with (go_at_call 210; refine hSE.mono ?_; rintro e w1 ⟨rfl, hw⟩; rw [hw]; clear hw)
  have hq0 := Blk.new w #[.pointer none] 55
  have hbA := hb0.alloc hb0.size (.cells #[.pointer none] 55)
  refine (as_miss' ⟨a, 0, none⟩ w.heap.size _ (hTe.out _ hbA).e hq0).mono ?_
  rintro e w2 ⟨rfl, hq2, hb2⟩
  have hb2' : Below w.heap.size w w2 := hbA.trans (hb2.mono (by simp))
  have kq := hq2.cell 0
  simp at kq
  clear hb2 hbA hq0 hb0
  go_wp2
  go_ret
  exact ⟨rfl, hb2'⟩
set_option maxRecDepth 100000 in
set_option maxHeartbeats 8000000 in
theorem report_Show_D (n s : ByteArray) (x0 : ByteArray) (a : Nat) (w : World) (hn : n.size ≤ 1099511627776) (hx0 : x0.size ≤ 1073741824) (hT : RepW w) :
    Calls Tryd.prog 29 #[.string n, .string s, .iface 59 (.agg #[.string x0, .iface 95 (.pointer (some ⟨a, 0, none⟩))])] w fun e w' => e = .returned (.string (n ++ ⟨#[58, 32]⟩ ++ x0 ++ ⟨#[10]⟩)) ∧ Below w.heap.size w w' := by
  have hb0 := Below.refl w.heap.size w
  have hTe : ∀ W, Below w.heap.size w W → RepW W := fun W h => hT.below h
  have mE := m_ErrorW (.string x0) (.iface 95 (.pointer (some ⟨a, 0, none⟩)))
  have hWE := Lib.hid (word_Error x0 (.iface 95 (.pointer (some ⟨a, 0, none⟩))))
  have q0 : (9223372036854775807 < n.size + 2) = False := eq_false (by omega)
  have u1 : (9223372036854775807 < n.size + 2 + x0.size) = False := eq_false (by omega)
  have u2 : (9223372036854775807 < n.size + 2 + x0.size + 1) = False := eq_false (by omega)
  have u1' : (9223372036854775807 < (n ++ ⟨#[58, 32]⟩).size + x0.size) = False := eq_false (by rw [ByteArray.size_append]; show ¬ (9223372036854775807 < n.size + 2 + x0.size); omega)
  have u2' : (9223372036854775807 < (n ++ ⟨#[58, 32]⟩ ++ x0).size + 1) = False := eq_false (by rw [ByteArray.size_append, ByteArray.size_append]; show ¬ (9223372036854775807 < n.size + 2 + x0.size + 1); omega)
  replace hTe := Lib.hid hTe
  clear hT
  go_enter Tryd.func29, Tryd.ntmps29
  go_wp2_with (go_at_call 208; refine (hWE.out _).mono ?_; rintro e w1 ⟨rfl, hb⟩; replace hb0 := hb0.trans (hb.mono hb0.size); clear hb)
  have hq0 := Blk.new w1 #[.pointer none] 55
  have hbA := hb0.alloc hb0.size (.cells #[.pointer none] 55)
  refine (as_holdmiss' x0 ⟨a, 0, none⟩ w1.heap.size _ (hTe.out _ hbA).e hq0).mono ?_
  rintro e w2 ⟨rfl, hq2, hb2⟩
  have hb2' : Below w.heap.size w w2 := hbA.trans (hb2.mono (by have := hb0.size; simp; omega))
  have kq := hq2.cell 0
  simp at kq
  clear hb2 hbA hq0 hb0
  go_wp2
  go_ret
  exact ⟨rfl, hb2'⟩
set_option maxRecDepth 100000 in
set_option maxHeartbeats 8000000 in
theorem report_Show_E (n s : ByteArray)  (w : World) (hn : n.size ≤ 1099511627776)  (hT : RepW w) :
    Calls Tryd.prog 29 #[.string n, .string s, .iface 55 (.pointer none)] w fun e w' => e = .returned (.string (n ++ ⟨#[58, 32]⟩ ++ ⟨#[]⟩ ++ ⟨#[10]⟩)) ∧ Below w.heap.size w w' := by
  have hb0 := Below.refl w.heap.size w
  have hTe : ∀ W, Below w.heap.size w W → RepW W := fun W h => hT.below h
  have mE := m_Error1 none
  have hSE := fault_Error_nil w
  have q0 : (9223372036854775807 < n.size + 2) = False := eq_false (by omega)
  have u1 : (9223372036854775807 < n.size + 2 + 0) = False := eq_false (by omega)
  have u2 : (9223372036854775807 < n.size + 2 + 0 + 1) = False := eq_false (by omega)
  have u1' : (9223372036854775807 < (n ++ ⟨#[58, 32]⟩).size + 0) = False := eq_false (by rw [ByteArray.size_append]; show ¬ (9223372036854775807 < n.size + 2 + 0); omega)
  have u2' : (9223372036854775807 < (n ++ ⟨#[58, 32]⟩ ++ ⟨#[]⟩).size + 1) = False := eq_false (by rw [ByteArray.size_append, ByteArray.size_append]; show ¬ (9223372036854775807 < n.size + 2 + 0 + 1); omega)
  replace hTe := Lib.hid hTe
  clear hT
  go_enter Tryd.func29, Tryd.ntmps29
  go_wp2_with (go_at_call 55; refine hSE.mono ?_; rintro e w1 ⟨rfl, hw⟩; rw [hw]; clear hw)
  have hq0 := Blk.new w #[.pointer none] 55
  have hbA := hb0.alloc hb0.size (.cells #[.pointer none] 55)
  refine (as_hit' none w.heap.size _ (hTe.out _ hbA).e hq0).mono ?_
  rintro e w2 ⟨rfl, hq2, hb2⟩
  have hb2' : Below w.heap.size w w2 := hbA.trans (hb2.mono (Nat.le_refl _))
  have kq := hq2.cell 0
  simp at kq
  clear hb2 hbA hq0 hb0
  go_wp2
  go_ret
  exact ⟨rfl, hb2'⟩
theorem report_Show_F (n s : ByteArray) (w : World) :
    Calls Tryd.prog 29 #[.string n, .string s, .nilIface] w fun e w' => e = .returned (.string ⟨#[]⟩) ∧ w' = w := by
  go_enter Tryd.func29, Tryd.ntmps29
  go_wp2
  go_ret
  exact ⟨rfl, rfl⟩
end Go.Proofs.YtdphhmigbbgjmaaDoor
