/- The reference tells a line of a text. Condition: shorter than 2^62 bytes. -/
import Derived.Test.YtdphhmigbbgjmaaDoorM1
import Derived.Test.YtdphhmigbbgjmaaDoorProg
namespace Go.Proofs.YtdphhmigbbgjmaaDoor
open Go.RowKit Go.Lib
attribute [local go_sem] byteAt_get wrap64_byteAt
theorem r3_Line (s : ByteArray) (n : Int) (w : World) (hs : s.size < 4611686018427387904) :
    Calls Tryd.prog 51 #[.string s, .int .i64 n] w fun e w' => e = .returned (lineV s.data.toList n) ∧ w = w' := by
  go_enter Tryd.func51, Tryd.ntmps51
  go_wp2
  go_loop [6, 7, 8] (fun kk ff ii => ∃ (i f : Nat) (pre : List Bs), ii = .int .i64 i ∧ ff = .int .i64 f ∧ kk = .int .i64 (pre.length + 1 : Nat) ∧ f ≤ i ∧ i ≤ s.size + 1 ∧ pre.length ≤ i ∧ Hid (i ≤ s.size → linesOf s.data.toList = pre ++ linesOf (s.data.toList.drop f) ∧ ∀ j, f ≤ j → j < i → byteAt s j ≠ 10) ∧ Hid (s.size < i → linesOf s.data.toList = pre) ∧ Hid (n < 1 ∨ (pre.length : Int) < n)) (fun _ _ i => s.size + 2 - (intOf i).toNat)
  case atStart => exact ⟨0, 0, [], rfl, rfl, rfl, Nat.le_refl _, by omega, Nat.le_refl _, fun _ => ⟨rfl, fun j h1 h2 => by omega⟩, fun h => by omega, by show _ ∨ _; simp; omega⟩
  case round =>
    obtain ⟨i, f, pre, rfl, rfl, rfl, hfi, hi, hpl, h1, h2, h3⟩ := hrel
    have hb0 := byteAt_lt s i
    by_cases hlt : i < s.size
    · by_cases h10 : byteAt s i = 10
      · have hln := Lib.hid (lines_nl s f i hfi hlt (h1.out (by omega)).2 h10)
        have hall : Hid (linesOf s.data.toList = pre ++ (s.data.toList.drop f).take (i - f) :: linesOf (s.data.toList.drop (i + 1))) := by rw [← hln.out]; exact (h1.out (by omega)).1
        have hx : ((byteAt s i : Int) != 10) = false := by simp [h10]
        clear h10
        by_cases hn : (pre.length : Int) + 1 = n
        · have fin : Hid (lineV s.data.toList n = .tuple #[.string (s.extract f i), .bool true]) := by
            unfold lineV; rw [getLine_at _ _ _ _ _ hall.out hn.symm, extract_list]; exact Lib.hid rfl
          have hn2 : ((pre.length : Int) + 1 == n) = true := by simp [hn]
          clear hn
          go_wp2
          go_ret2
          exact ⟨by rw [fin.out]; rfl, rfl⟩
        · have hn2 : ((pre.length : Int) + 1 == n) = false := by simp [hn]
          have hn' := Lib.hid hn
          clear hn
          go_wp2
          go_round
          case rel => exact ⟨i + 1, i + 1, pre ++ [(s.data.toList.drop f).take (i - f)], by go_num, by go_num, by first | (simp; done) | (simp; go_num), by omega, by omega, by simp; omega, fun _ => ⟨by rw [hall.out]; simp, fun j j1 j2 => by omega⟩, fun h => by omega, by have := h3.out; have := hn'.out; simp [Hid]; omega⟩
          case measure => first | (simp [intOf]; done) | (simp [intOf]; omega)
      · have hx : ((byteAt s i : Int) != 10) = true := by simp; omega
        have h10 := Lib.hid h10
        go_wp2
        go_round
        case rel => exact ⟨i + 1, f, pre, by go_num, rfl, rfl, by omega, by omega, by omega, fun _ => ⟨(h1.out (by omega)).1, fun j j1 j2 => by
          by_cases e : j = i
          · subst e; exact h10.out
          · exact (h1.out (by omega)).2 j j1 (by omega)⟩, fun h => by omega, h3⟩
        case measure => first | (simp [intOf]; done) | (simp [intOf]; omega)
    · by_cases hle : i = s.size
      · subst hle
        have hln := Lib.hid (lines_last s f (h1.out (by omega)).2)
        have hall : Hid (linesOf s.data.toList = pre ++ [(s.data.toList.drop f).take (s.size - f)]) := by rw [← hln.out]; exact (h1.out (by omega)).1
        by_cases hn : (pre.length : Int) + 1 = n
        · have fin : Hid (lineV s.data.toList n = .tuple #[.string (s.extract f s.size), .bool true]) := by
            unfold lineV; rw [getLine_at _ _ _ _ _ hall.out hn.symm, extract_list]; exact Lib.hid rfl
          have hn2 : ((pre.length : Int) + 1 == n) = true := by simp [hn]
          clear hn
          go_wp2
          go_ret2
          exact ⟨by rw [fin.out]; rfl, rfl⟩
        · have hn2 : ((pre.length : Int) + 1 == n) = false := by simp [hn]
          have hn' := Lib.hid hn
          clear hn
          go_wp2
          go_round
          case rel => exact ⟨s.size + 1, s.size + 1, pre ++ [(s.data.toList.drop f).take (s.size - f)], by go_num, by go_num, by first | (simp; done) | (simp; go_num), by omega, by omega, by simp; omega, fun h => by omega, fun _ => by rw [hall.out], by have := h3.out; have := hn'.out; simp [Hid]; omega⟩
          case measure => first | (simp [intOf]; done) | (simp [intOf]; omega)
      · have hgt : s.size < i := by omega
        have fin : Hid (lineV s.data.toList n = .tuple #[.string ⟨#[]⟩, .bool false]) := by
          unfold lineV; rw [getLine_none _ _ (by rw [h2.out hgt]; exact h3.out)]; exact Lib.hid rfl
        go_wp2
        go_ret2
        exact ⟨by rw [fin.out]; rfl, rfl⟩

end Go.Proofs.YtdphhmigbbgjmaaDoor
