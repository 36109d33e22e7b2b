/- The reference's line of a piece is the program's. Plain Lean. The reference's plain, number and piece: what they tell of a piece's line; they come to an answer. Plain Lean. The reference's piece: the first of its candidates whose line the text is. Plain Lean. The reference's check and parse are the program's. Plain Lean. -/
import Derived.Test.YtbdilejhbeffjaaDoorN2
import Derived.Test.YtbdilejhbeffjaaDoorPDoc6
import Derived.Test.YtbdilejhbeffjaaDoorPDoc8
import Derived.Test.YtbdilejhbeffjaaDoorPDoc9
section
namespace Go.Proofs.YtbdilejhbeffjaaDoor
open Go.RowKit Go.Lib Go.Proofs.YtbdilejhbeffjaaDoorW.PrintWords
open PDoc
set_option linter.unusedVariables false
set_option linter.unusedSimpArgs false
theorem ten_f : ∀ n : Fin 1001, colophonref07_Ten.f 30 (n.val : Int) = some ⟨(Lib.itoa (n.val : Int)).toArray⟩ := by decide +kernel
theorem ten_at (n : Int) (h : 0 ≤ n ∧ n ≤ 1000) {K : Nat} (hK : 30 ≤ K) : colophonref07_Ten.f K n = some ⟨(Lib.itoa n).toArray⟩ := by
  have := ten_f ⟨n.toNat, by omega⟩
  rw [show ((⟨n.toNat, by omega⟩ : Fin 1001).val : Int) = n by simp; omega] at this
  exact at_rounds (g := fun k => colophonref07_Ten.f k n) (fun k => colophonref07_Ten.mono n k) hK this
theorem hex_bt (p : Nat) (h : p < 16) : bt (⟨#[48, 49, 50, 51, 52, 53, 54, 55, 56, 57, 97, 98, 99, 100, 101, 102]⟩ : ByteArray) (p : Int) = ((hexB p).toNat : Int) :=
  (by decide +kernel : ∀ p : Fin 16, bt (⟨#[48, 49, 50, 51, 52, 53, 54, 55, 56, 57, 97, 98, 99, 100, 101, 102]⟩ : ByteArray) (p.val : Int) = ((hexB p.val).toNat : Int)) ⟨p, h⟩
def nums (l : List UInt8) : List Int := l.map fun c => ((c.toNat : Nat) : Int)
theorem nums_app (a b : List UInt8) : nums (a ++ b) = nums a ++ nums b := by simp [nums]
theorem nums_len (a : List UInt8) : (nums a).length = a.length := by simp [nums]
theorem esc_l0 (s : ByteArray) (hs : s.size ≤ 1099511627776) (l : List UInt8) : ∀ (P : List UInt8) (acc : List Int) (K : Nat), s.data.toList = P ++ l → l.length < K → acc.length + 4 * l.length < 140737488355328 →
    colophonref07_escaped.l0 K s acc (P.length : Int) = some (strOfNums (acc ++ nums (escL l))) := by
  induction l with
  | nil =>
    intro P acc K h hK _
    obtain ⟨K, rfl⟩ : ∃ m, K = m + 1 := ⟨K - 1, by omega⟩
    have hz : s.size = P.length := by rw [← size_len, h]; simp
    rw [colophonref07_escaped.l0, if_neg (by omega)]
    simp [nums, escL]
  | cons c r ih =>
    intro P acc K h hK hacc
    simp only [List.length_cons] at hK hacc
    obtain ⟨K, rfl⟩ : ∃ m, K = m + 1 := ⟨K - 1, by omega⟩
    have hE : escL (c :: r) = escB c ++ escL r := by simp [escL]
    have hcl : c.toNat < 256 := UInt8.toNat_lt _
    obtain ⟨b0, e0⟩ := at_app h 0 (by simp)
    have e0 : bt s (P.length : Int) = ((c.toNat : Nat) : Int) := e0
    have q1 : Hid (wrap64 ((P.length : Int) + 1) = ((P.length + 1 : Nat) : Int)) := Lib.hid (by rw [w64 (by omega) (by omega)]; omega)
    have nxt : ∀ (x : List Int), x = nums (escB c) → colophonref07_escaped.l0 K s (acc ++ x) ((P.length + 1 : Nat) : Int) = some (strOfNums (acc ++ nums (escL (c :: r)))) := fun x hx => by
      have h4 := escB_len c
      have := ih (P ++ [c]) (acc ++ x) K (by rw [h]; simp) (by omega) (by rw [List.length_append, hx, nums_len]; omega)
      rw [List.length_append, List.length_singleton] at this
      rw [this, hE, nums_app, hx, List.append_assoc]
    have d1 : Int.tdiv ((c.toNat : Nat) : Int) 16 % 256 = ((c.toNat / 16 : Nat) : Int) := by rw [Int.tdiv_eq_ediv_of_nonneg (by omega)]; omega
    have d2 : Int.tmod ((c.toNat : Nat) : Int) 16 = ((c.toNat % 16 : Nat) : Int) := by rw [Int.tmod_eq_emod_of_nonneg (by omega)]; omega
    rw [colophonref07_escaped.l0, if_pos (by omega), if_pos (by omega), e0, q1.out, d1, d2, hex_bt _ (by omega), hex_bt _ (by omega)]
    by_cases c92 : c = 92
    · rw [if_pos (by rw [c92]; rfl), Option.bind_some, if_pos (by simp; omega)]
      exact nxt [92, 92] (by unfold escB; rw [if_pos c92]; rfl)
    · have n92 : ¬ ((c.toNat : Nat) : Int) = 92 := fun e => c92 (UInt8.toNat_inj.1 (by show c.toNat = 92; omega))
      rw [if_neg n92]
      by_cases cp : 32 ≤ c ∧ c ≤ 126
      · have p1 : 32 ≤ c.toNat := UInt8.le_iff_toNat_le.1 cp.1
        have p2 : c.toNat ≤ 126 := UInt8.le_iff_toNat_le.1 cp.2
        rw [if_pos (by omega), if_pos (by omega), if_pos (by omega)]
        exact nxt [((c.toNat : Nat) : Int)] (by unfold escB; rw [if_neg c92, if_pos cp]; rfl)
      · have hx : nums (escB c) = [92, 120, ((hexB (c.toNat / 16)).toNat : Int), ((hexB (c.toNat % 16)).toNat : Int)] := by unfold escB; rw [if_neg c92, if_neg cp]; rfl
        have hn := nxt _ hx.symm
        by_cases p1 : 32 ≤ c.toNat
        · have p2 : ¬ c.toNat ≤ 126 := fun h => cp ⟨UInt8.le_iff_toNat_le.2 p1, UInt8.le_iff_toNat_le.2 h⟩
          rw [if_pos (by omega), if_neg (by omega), if_pos (by omega), if_pos (by omega), if_pos (by omega), if_pos (by omega), Option.bind_some, if_pos (by simp; omega)]
          exact hn
        · rw [if_neg (by omega), if_pos (by omega), if_pos (by omega), if_pos (by omega), if_pos (by omega), Option.bind_some, if_pos (by simp; omega)]
          exact hn
theorem str_nums (l : List UInt8) : strOfNums (nums l) = ⟨l.toArray⟩ := by
  apply ba_ext
  rw [strOfNums_data]
  unfold nums
  rw [List.map_map]
  conv => rhs; simp only
  have : ∀ l : List UInt8, l.map ((fun n : Int => UInt8.ofNat n.toNat) ∘ fun c => ((c.toNat : Nat) : Int)) = l := fun l => by
    conv => rhs; rw [← List.map_id l]
    apply List.map_congr_left
    intro c _
    simp
  rw [this]
theorem escaped_f (t : ByteArray) (ht : t.size ≤ 1099511627776) (K : Nat) (hK : t.size < K) : colophonref07_escaped.f K t = some ⟨(escL t.data.toList).toArray⟩ := by
  have := esc_l0 t ht t.data.toList [] [] K rfl (by rw [size_len]; exact hK) (by rw [size_len]; simp; omega)
  unfold colophonref07_escaped.f
  rw [List.nil_append, str_nums] at this
  exact this
/-- The reference's line of a right piece. -/
theorem line_f (d : S33) (h : Good d) (K : Nat) (hK : 65600 ≤ K) : colophonref07_Line.f K d.f0 d.f1 d.f2 d.f3 d.f4 = some ⟨(LB d).toArray⟩ := by
  obtain ⟨g1, g2, g3, g4, g5, g6, g7⟩ := good_ok h
  obtain ⟨k0, t, n, i, e⟩ := d
  simp only at g1 g2 g3 g4 g5 g6 g7
  obtain ⟨k, rfl⟩ := Int.eq_ofNat_of_zero_le (show 0 ≤ k0 by omega)
  unfold LB lineB
  simp only [Int.toNat_natCast]
  unfold colophonref07_Line.f
  rcases (by omega : k = 1 ∨ k = 2 ∨ k = 3 ∨ k = 4 ∨ k = 5 ∨ k = 6 ∨ k = 7) with rfl | rfl | rfl | rfl | rfl | rfl | rfl
  · obtain ⟨a, b, rfl, rfl, rfl⟩ := g4 rfl
    have hl : (⟨(escL t.data.toList).toArray⟩ : ByteArray).size ≤ 4 * 65535 := by
      have := escL_len t.data.toList
      rw [size_len] at this
      rw [Lib.size_eq]; simp; omega
    rw [if_pos (by decide), escaped_f t (by omega) K (by omega), Option.bind_some, if_pos (by omega), if_pos rfl]
    exact congrArg some (ba_ext (by rw [ByteArray.data_append, Array.toList_append]; rfl))
  · rw [if_neg (by decide), if_pos (by decide), if_neg (by decide), if_neg (by decide), if_neg (by decide), List.append_nil]; rfl
  · obtain ⟨a, b, _⟩ := g5 rfl
    have hl : (⟨(Lib.itoa n).toArray⟩ : ByteArray).size ≤ 21 := by rw [Lib.size_eq]; simpa using itoa_len n (by omega)
    rw [if_neg (by decide), if_neg (by decide), if_pos (by decide), ten_at n ⟨a, b⟩ (by omega), Option.bind_some, if_pos (by omega), if_neg (by decide), if_pos rfl]
    exact congrArg some (ba_ext (by rw [ByteArray.data_append, Array.toList_append]; rfl))
  · rw [if_neg (by decide), if_neg (by decide), if_neg (by decide), if_pos (by decide), if_neg (by decide), if_neg (by decide), if_neg (by decide), List.append_nil]; rfl
  · rw [if_neg (by decide), if_neg (by decide), if_neg (by decide), if_neg (by decide), if_pos (by decide), if_neg (by decide), if_neg (by decide), if_neg (by decide), List.append_nil]; rfl
  · obtain ⟨a, b, _⟩ := g6 rfl
    have hl : (⟨(Lib.itoa i).toArray⟩ : ByteArray).size ≤ 21 := by rw [Lib.size_eq]; simpa using itoa_len i (by omega)
    rw [if_neg (by decide), if_neg (by decide), if_neg (by decide), if_neg (by decide), if_neg (by decide), if_pos (by decide), ten_at i ⟨a, b⟩ (by omega)]
    rw [if_neg (by decide : ¬ (6 = 1)), if_neg (by decide : ¬ (6 = 3)), if_pos rfl]
    cases e with
    | true =>
      have hz : ((⟨#[98, 101, 103, 105, 110, 32]⟩ : ByteArray) ++ ⟨(Lib.itoa i).toArray⟩).size = 6 + (⟨(Lib.itoa i).toArray⟩ : ByteArray).size := by rw [ByteArray.size_append]; rfl
      rw [if_pos rfl, Option.bind_some, if_pos (by omega), if_pos (by omega), if_pos rfl]
      exact congrArg some (ba_ext (by rw [ByteArray.data_append, Array.toList_append, ByteArray.data_append, Array.toList_append, List.append_assoc]; rfl))
    | false =>
      rw [if_neg ff, Option.bind_some, if_pos (by omega), if_neg ff, List.append_nil]
      exact congrArg some (ba_ext (by rw [ByteArray.data_append, Array.toList_append]; rfl))
  · rw [if_neg (by decide), if_neg (by decide), if_neg (by decide), if_neg (by decide), if_neg (by decide), if_neg (by decide), if_neg (by decide), if_neg (by decide), if_neg (by decide), List.append_nil]; rfl
end Go.Proofs.YtbdilejhbeffjaaDoor
end
section
namespace Go.Proofs.YtbdilejhbeffjaaDoor
open Go.RowKit Go.Lib Go.Proofs.YtbdilejhbeffjaaDoorW.PrintWords
open PDoc
set_option linter.unusedVariables false
set_option linter.unusedSimpArgs false
theorem digit_hex (p : Nat) (h : p < 16) {K : Nat} (hK : 1 ≤ K) : colophonref07_digit.f K ((hexB p).toNat : Int) = some (p : Int) := by
  have := (by decide +kernel : ∀ p : Fin 16, colophonref07_digit.f 1 ((hexB p.val).toNat : Int) = some (p.val : Int)) ⟨p, h⟩
  exact at_rounds (g := fun k => colophonref07_digit.f k ((hexB p).toNat : Int)) (fun k => colophonref07_digit.mono _ k) hK this
theorem digit_tot (x : Int) (K : Nat) : ∃ r, colophonref07_digit.f (K + 1) x = some r ∧ (0 ≤ r ∨ r ≤ 256) := by
  unfold colophonref07_digit.f
  split
  · rw [colophonref07_digit.j0]
    split
    · exact ⟨_, rfl, by omega⟩
    · split
      · split
        · exact ⟨_, rfl, by omega⟩
        · exact ⟨_, rfl, by omega⟩
      · exact ⟨_, rfl, by omega⟩
  · rw [colophonref07_digit.j0, if_neg ff]
    split
    · split
      · exact ⟨_, rfl, by omega⟩
      · exact ⟨_, rfl, by omega⟩
    · exact ⟨_, rfl, by omega⟩
/-- What is escaped is told plain. -/
theorem pl_l0 (s : ByteArray) (hs : s.size ≤ 1099511627776) (l : List UInt8) : ∀ (P : List UInt8) (acc : List Int) (K : Nat), s.data.toList = P ++ escL l → 2 * l.length + 2 < K → acc.length + l.length < 140737488355328 →
    colophonref07_plain.l0 K s acc (P.length : Int) = some (strOfNums (acc ++ nums l)) := by
  induction l with
  | nil =>
    intro P acc K h hK _
    obtain ⟨K, rfl⟩ : ∃ m, K = m + 1 := ⟨K - 1, by omega⟩
    have hz : s.size = P.length := by rw [← size_len, h]; simp [escL]
    rw [colophonref07_plain.l0, if_neg (by omega)]
    simp [nums]
  | cons c r ih =>
    intro P acc K h hK hacc
    simp only [List.length_cons] at hK hacc
    obtain ⟨K, rfl⟩ : ∃ m, K = m + 2 := ⟨K - 2, by omega⟩
    have hE : escL (c :: r) = escB c ++ escL r := by simp [escL]
    rw [hE] at h
    have hsz : s.size = P.length + ((escB c).length + (escL r).length) := by rw [← size_len, h, List.length_append, List.length_append]
    have hcl : c.toNat < 256 := UInt8.toNat_lt _
    have hPl : P.length < 1099511627776 + 1 := by omega
    have hq : ∀ n : Nat, n ≤ 10 → Hid (wrap64 ((P.length : Int) + (n : Int)) = ((P.length + n : Nat) : Int)) := fun n hn => Lib.hid (by rw [w64 (by omega) (by omega)]; omega)
    have q1 : Hid (wrap64 ((P.length : Int) + 1) = ((P.length + 1 : Nat) : Int)) := hq 1 (by omega)
    have q2 : Hid (wrap64 ((P.length : Int) + 2) = ((P.length + 2 : Nat) : Int)) := hq 2 (by omega)
    have q3 : Hid (wrap64 ((P.length : Int) + 3) = ((P.length + 3 : Nat) : Int)) := hq 3 (by omega)
    have q11 : Hid (wrap64 (((P.length + 1 : Nat) : Int) + 1) = ((P.length + 2 : Nat) : Int)) := Lib.hid (by rw [w64 (by omega) (by omega)]; omega)
    have q31 : Hid (wrap64 (((P.length + 3 : Nat) : Int) + 1) = ((P.length + 4 : Nat) : Int)) := Lib.hid (by rw [w64 (by omega) (by omega)]; omega)
    have nxt : ∀ (e : List UInt8) (x : Int), s.data.toList = P ++ (e ++ escL r) → x = ((c.toNat : Nat) : Int) → colophonref07_plain.l0 K s (acc ++ [x]) ((P.length + e.length : Nat) : Int) = some (strOfNums (acc ++ nums (c :: r))) := fun e x he hx => by
      have := ih (P ++ e) (acc ++ [x]) K (by rw [he, List.append_assoc]) (by omega) (by simp; omega)
      rw [List.length_append] at this
      rw [this, hx]; simp [nums]
    by_cases c92 : c = 92
    · have ee : escB c = [92, 92] := by unfold escB; rw [if_pos c92]
      rw [ee] at h hsz
      simp only [List.length_cons, List.length_nil] at hsz
      obtain ⟨b0, e0⟩ := at_app h 0 (by simp)
      obtain ⟨b1, e1⟩ := at_app h 1 (by simp)
      have e0 : bt s (P.length : Int) = 92 := e0
      have e1 : bt s ((P.length + 1 : Nat) : Int) = 92 := e1
      have hn : colophonref07_plain.l0 K s (acc ++ [92]) ((P.length + 2 : Nat) : Int) = _ := nxt [92, 92] 92 h (by rw [c92]; rfl)
      have hj : colophonref07_plain.j1 (K + 1) s acc (P.length : Int) false = some (strOfNums (acc ++ nums (c :: r))) := by
        rw [colophonref07_plain.j1, if_neg ff, if_pos (by omega), if_pos (by omega), e0, if_pos rfl, q1.out, if_pos (by omega), if_pos (by omega), if_pos (by omega), e1, q11.out, hn]
      rw [show K + 2 = (K + 1) + 1 from rfl, colophonref07_plain.l0, if_pos (by omega), if_pos (by omega), e0, if_pos rfl, q3.out, q1.out, e1, hj, if_neg (by omega : ¬ (92 : Int) = 120)]
      split
      · rw [if_pos (by omega), if_pos (by omega)]
      · rfl
    · by_cases cp : 32 ≤ c ∧ c ≤ 126
      · have ee : escB c = [c] := by unfold escB; rw [if_neg c92, if_pos cp]
        rw [ee] at h hsz
        simp only [List.length_cons, List.length_nil] at hsz
        obtain ⟨b0, e0⟩ := at_app h 0 (by simp)
        have e0 : bt s (P.length : Int) = ((c.toNat : Nat) : Int) := e0
        have n92 : ¬ ((c.toNat : Nat) : Int) = 92 := fun e => c92 (UInt8.toNat_inj.1 (by show c.toNat = 92; omega))
        have hn : colophonref07_plain.l0 K s (acc ++ [((c.toNat : Nat) : Int)]) ((P.length + 1 : Nat) : Int) = _ := nxt [c] _ h rfl
        rw [show K + 2 = (K + 1) + 1 from rfl, colophonref07_plain.l0, if_pos (by omega), if_pos (by omega), e0, if_neg n92, colophonref07_plain.j1, if_neg ff, if_pos (by omega), if_pos (by omega), e0, if_neg n92, if_pos (by omega), q1.out, hn]
      · have ee : escB c = [92, 120, hexB (c.toNat / 16), hexB (c.toNat % 16)] := by unfold escB; rw [if_neg c92, if_neg cp]
        rw [ee] at h hsz
        simp only [List.length_cons, List.length_nil] at hsz
        obtain ⟨b0, e0⟩ := at_app h 0 (by simp)
        obtain ⟨b1, e1⟩ := at_app h 1 (by simp)
        obtain ⟨b2, e2⟩ := at_app h 2 (by simp)
        obtain ⟨b3, e3⟩ := at_app h 3 (by simp)
        have e0 : bt s (P.length : Int) = 92 := e0
        have e1 : bt s ((P.length + 1 : Nat) : Int) = 120 := e1
        have e2 : bt s ((P.length + 2 : Nat) : Int) = (((hexB (c.toNat / 16)).toNat : Nat) : Int) := e2
        have e3 : bt s ((P.length + 3 : Nat) : Int) = (((hexB (c.toNat % 16)).toNat : Nat) : Int) := e3
        have d1 := digit_hex (c.toNat / 16) (by omega) (show 1 ≤ K + 1 by omega)
        have d2 := digit_hex (c.toNat % 16) (by omega) (show 1 ≤ K + 1 by omega)
        have d3 := digit_hex (c.toNat / 16) (by omega) (show 1 ≤ K by omega)
        have d4 := digit_hex (c.toNat % 16) (by omega) (show 1 ≤ K by omega)
        have hn : colophonref07_plain.l0 K s (acc ++ [((c.toNat : Nat) : Int)]) ((P.length + 4 : Nat) : Int) = _ := nxt [92, 120, hexB (c.toNat / 16), hexB (c.toNat % 16)] _ h rfl
        have hv : (wrap64 ((wrap64 (16 * ((c.toNat / 16 : Nat) : Int))) + ((c.toNat % 16 : Nat) : Int))) % 256 = ((c.toNat : Nat) : Int) := by
          rw [w64 (x := 16 * ((c.toNat / 16 : Nat) : Int)) (by omega) (by omega), w64 (by omega) (by omega)]; omega
        replace hv := Lib.hid hv
        rw [show K + 2 = (K + 1) + 1 from rfl, colophonref07_plain.l0, if_pos (by omega), if_pos (by omega), e0, if_pos rfl, q3.out, if_pos (by omega), q1.out, if_pos (by omega), if_pos (by omega), e1, if_pos rfl, q2.out, if_pos (by omega), if_pos (by omega), e2, d1, Option.bind_some, if_pos (by omega), if_pos (by omega), e3, d2, Option.bind_some, show decide (((c.toNat % 16 : Nat) : Int) < 16) = true by simp; omega]
        rw [colophonref07_plain.j1, if_pos rfl, q2.out, if_pos (by omega), if_pos (by omega), e2, d3, Option.bind_some, q3.out, if_pos (by omega), if_pos (by omega), e3, d4, Option.bind_some, if_pos (by omega), hv.out, q31.out, hn]
theorem plain_f (t s : ByteArray) (hs : s.size ≤ 1099511627776) (h : s.data.toList = escL t.data.toList) (K : Nat) (hK : 2 * t.size + 2 < K) : colophonref07_plain.f K s = some t := by
  have ht : t.size ≤ s.size := by
    have := escL_ge t.data.toList
    rw [← h, size_len, size_len] at this; exact this
  have := pl_l0 s hs t.data.toList [] [] K (by rw [h]; rfl) (by rw [size_len]; exact hK) (by rw [size_len]; simp; omega)
  unfold colophonref07_plain.f
  rw [List.nil_append] at this
  rw [show (strOfNums (nums t.data.toList)) = t from nums_str t] at this
  exact this
theorem num3 : ∀ n : Fin 1001, colophonref07_number.f 30 ⟨(wordB 3 ++ Lib.itoa (n.val : Int)).toArray⟩ 6 = some (n.val : Int) := by decide +kernel
theorem num6 : ∀ n : Fin 1001, ∀ e : Bool, colophonref07_number.f 30 ⟨(wordB 6 ++ (Lib.itoa (n.val : Int) ++ (if e = true then [32, 101, 118, 101, 110] else []))).toArray⟩ 6 = some (n.val : Int) := by decide +kernel
end Go.Proofs.YtbdilejhbeffjaaDoor
end
section
namespace Go.Proofs.YtbdilejhbeffjaaDoor
open Go.RowKit Go.Lib Go.Proofs.YtbdilejhbeffjaaDoorW.PrintWords
open PDoc
set_option linter.unusedVariables false
set_option linter.unusedSimpArgs false
theorem number_l0 (s : ByteArray) (hs : s.size ≤ 4194304) (d : Nat) : ∀ (i : Nat) (x : Int) (K : Nat), 6 ≤ i → i ≤ 10 → 10 ≤ i + d → 2 * d + 3 ≤ K → ∃ r, colophonref07_number.l0 K s 6 x (i : Int) = some r := by
  induction d with
  | zero =>
    intro i x K h0 h1 h2 hK
    obtain ⟨K, rfl⟩ : ∃ m, K = m + 2 := ⟨K - 2, by omega⟩
    have q : wrap64 ((6 : Int) + 4) = 10 := by rw [w64 (by omega) (by omega)]; rfl
    rw [show K + 2 = (K + 1) + 1 from rfl, colophonref07_number.l0, q]
    split
    · rw [show decide ((i : Int) < 10) = false by simp; omega, colophonref07_number.j1, if_neg ff]; exact ⟨_, rfl⟩
    · rw [colophonref07_number.j1, if_neg ff]; exact ⟨_, rfl⟩
  | succ d ih =>
    intro i x K h0 h1 h2 hK
    obtain ⟨K, rfl⟩ : ∃ m, K = m + 2 := ⟨K - 2, by omega⟩
    have q : wrap64 ((6 : Int) + 4) = 10 := by rw [w64 (by omega) (by omega)]; rfl
    have q1 : Hid (wrap64 ((i : Int) + 1) = ((i + 1 : Nat) : Int)) := Lib.hid (by rw [w64 (by omega) (by omega)]; omega)
    rw [show K + 2 = (K + 1) + 1 from rfl, colophonref07_number.l0, q]
    by_cases c : (i : Int) < (s.size : Int)
    · rw [if_pos c]
      by_cases c1 : i < 10
      · rw [show decide ((i : Int) < 10) = true by simp; omega, colophonref07_number.j1, if_pos rfl, if_pos (by omega), if_pos c, q1.out]
        split
        · split
          · exact ih (i + 1) _ K (by omega) (by omega) (by omega) (by omega)
          · exact ih (i + 1) _ K (by omega) (by omega) (by omega) (by omega)
        · exact ih (i + 1) _ K (by omega) (by omega) (by omega) (by omega)
      · rw [show decide ((i : Int) < 10) = false by simp; omega, colophonref07_number.j1, if_neg ff]; exact ⟨_, rfl⟩
    · rw [if_neg c, colophonref07_number.j1, if_neg ff]; exact ⟨_, rfl⟩
theorem number_tot (s : ByteArray) (hs : s.size ≤ 4194304) (K : Nat) (hK : 11 ≤ K) : ∃ r, colophonref07_number.f K s 6 = some r := number_l0 s hs 4 6 0 K (by omega) (by omega) (by omega) (by omega)
theorem plain_l0 (s : ByteArray) (hs : s.size ≤ 4194304) (d : Nat) : ∀ (i K : Nat) (acc : List Int), s.size ≤ i + d → i ≤ s.size → acc.length ≤ i → 2 * d + 3 ≤ K → ∃ t, colophonref07_plain.l0 K s acc (i : Int) = some t := by
  induction d using Nat.strongRecOn with
  | ind d ih =>
    intro i K acc h1 h2 h3 hK
    by_cases c : i = s.size
    · obtain ⟨K, rfl⟩ : ∃ m, K = m + 1 := ⟨K - 1, by omega⟩
      rw [colophonref07_plain.l0, if_neg (by omega)]
      exact ⟨_, rfl⟩
    · obtain ⟨K, rfl⟩ : ∃ m, K = m + 3 := ⟨K - 3, by omega⟩
      have q1 : Hid (wrap64 ((i : Int) + 1) = ((i + 1 : Nat) : Int)) := Lib.hid (by rw [w64 (by omega) (by omega)]; omega)
      have q2 : Hid (wrap64 ((i : Int) + 2) = ((i + 2 : Nat) : Int)) := Lib.hid (by rw [w64 (by omega) (by omega)]; omega)
      have q3 : Hid (wrap64 ((i : Int) + 3) = ((i + 3 : Nat) : Int)) := Lib.hid (by rw [w64 (by omega) (by omega)]; omega)
      have q11 : Hid (wrap64 (((i + 1 : Nat) : Int) + 1) = ((i + 2 : Nat) : Int)) := Lib.hid (by rw [w64 (by omega) (by omega)]; omega)
      have q31 : Hid (wrap64 (((i + 3 : Nat) : Int) + 1) = ((i + 4 : Nat) : Int)) := Lib.hid (by rw [w64 (by omega) (by omega)]; omega)
      have one : ∀ x : Int, ∃ t, colophonref07_plain.l0 (K + 1) s (acc ++ [x]) ((i + 1 : Nat) : Int) = some t := fun x => ih (d - 1) (by omega) (i + 1) (K + 1) _ (by omega) (by omega) (by simp; omega) (by omega)
      have no : ∃ t, colophonref07_plain.j1 (K + 2) s acc (i : Int) false = some t := by
        rw [show K + 2 = (K + 1) + 1 from rfl, colophonref07_plain.j1, if_neg ff, if_pos (by omega), if_pos (by omega), q1.out]
        split
        · split
          · rw [if_pos (by omega), if_pos (by omega), q11.out]
            exact ih (d - 2) (by omega) (i + 2) (K + 1) _ (by omega) (by omega) (by simp; omega) (by omega)
          · rw [if_pos (by omega)]; exact one _
        · rw [if_pos (by omega)]; exact one _
      have yes : i + 3 < s.size → ∃ t, colophonref07_plain.j1 (K + 2) s acc (i : Int) true = some t := fun h => by
        obtain ⟨r1, d1, _⟩ := digit_tot (bt s ((i + 2 : Nat) : Int)) K
        obtain ⟨r2, d2, _⟩ := digit_tot (bt s ((i + 3 : Nat) : Int)) K
        rw [show K + 2 = (K + 1) + 1 from rfl, colophonref07_plain.j1, if_pos rfl, q2.out, if_pos (by omega), if_pos (by omega), d1, Option.bind_some, q3.out, if_pos (by omega), if_pos (by omega), d2, Option.bind_some, if_pos (by omega), q31.out]
        exact ih (d - 4) (by omega) (i + 4) (K + 1) _ (by omega) (by omega) (by simp; omega) (by omega)
      rw [show K + 3 = (K + 2) + 1 from rfl, colophonref07_plain.l0, if_pos (by omega), if_pos (by omega), q1.out, q2.out, q3.out]
      by_cases c92 : bt s (i : Int) = 92
      · rw [if_pos c92]
        by_cases c3 : i + 3 < s.size
        · obtain ⟨r1, d1, _⟩ := digit_tot (bt s ((i + 2 : Nat) : Int)) (K + 1)
          obtain ⟨r2, d2, _⟩ := digit_tot (bt s ((i + 3 : Nat) : Int)) (K + 1)
          rw [if_pos (by omega), if_pos (by omega), if_pos (by omega)]
          split
          · rw [if_pos (by omega), if_pos (by omega), d1, Option.bind_some]
            split
            · rw [if_pos (by omega), d2, Option.bind_some]
              by_cases c16 : r2 < 16
              · rw [decide_eq_true c16]; exact yes c3
              · rw [decide_eq_false c16]; exact no
            · exact no
          · exact no
        · rw [if_neg (by omega)]; exact no
      · rw [if_neg c92]; exact no
theorem plain_tot (s : ByteArray) (hs : s.size ≤ 4194304) (K : Nat) (hK : 2 * s.size + 3 ≤ K) : ∃ t, colophonref07_plain.f K s = some t := plain_l0 s hs s.size 0 K [] (by omega) (by omega) (by simp) hK
/-- The first of the candidates whose line the text is. -/
theorem piece_l0 (s : ByteArray) (C : List S33) (hC : ∀ c ∈ C, 0 ≤ c.f0) (hl : C.length ≤ 100) (r : List S33) : ∀ (i K : Nat), i ≤ C.length → C.drop i = r → 65700 + r.length ≤ K →
    (∃ c ∈ r, Good c ∧ LB c = s.data.toList ∧ colophonref07_piece.l0 K s C (i : Int) = some (c.f0, c.f1, c.f2, c.f3, c.f4, true)) ∨ ((∀ c ∈ r, Good c → LB c ≠ s.data.toList) ∧ colophonref07_piece.l0 K s C (i : Int) = some (0, ⟨#[]⟩, 0, 0, false, false)) := by
  induction r with
  | nil =>
    intro i K h0 h1 hK
    obtain ⟨K, rfl⟩ : ∃ m, K = m + 1 := ⟨K - 1, by omega⟩
    have hi : C.length ≤ i := List.drop_eq_nil_iff.1 h1
    exact .inr ⟨(fun c hc => by cases hc), by rw [colophonref07_piece.l0, if_neg (by omega)]⟩
  | cons d r ih =>
    intro i K h0 h1 hK
    simp only [List.length_cons] at hK
    obtain ⟨K, rfl⟩ : ∃ m, K = m + 1 := ⟨K - 1, by omega⟩
    obtain ⟨g1, g2, g3⟩ := drop_get C i d r h1
    have hd : 0 ≤ d.f0 := hC d (by rw [← g2, List.getD_eq_getElem?_getD, List.getElem?_eq_getElem g1]; exact List.getElem_mem g1)
    have hrd : rd_T33 C (i : Int) = d := by unfold rd_T33; rw [Int.toNat_natCast]; exact g2
    have e2 : Hid (wrap64 ((i : Int) + 1) = ((i + 1 : Nat) : Int)) := Lib.hid (by rw [w64 (by omega) (by omega)]; omega)
    have hr : colophonref07_Right.f d.f0 d.f1 d.f2 d.f3 d.f4 = some (rightD d) := by unfold colophonref07_Right.f rightF rightD; rw [if_pos hd]
    have hnx := ih (i + 1) K (by omega) g3 (by omega)
    rw [colophonref07_piece.l0, if_pos (by omega), if_pos (by omega), hrd, hr, Option.bind_some, e2.out]
    have up : ∀ X, ((∃ c ∈ r, Good c ∧ LB c = s.data.toList ∧ X = some (c.f0, c.f1, c.f2, c.f3, c.f4, true)) ∨ ((∀ c ∈ r, Good c → LB c ≠ s.data.toList) ∧ X = some (0, ⟨#[]⟩, 0, 0, false, false))) → (Good d → LB d ≠ s.data.toList) →
        ((∃ c ∈ d :: r, Good c ∧ LB c = s.data.toList ∧ X = some (c.f0, c.f1, c.f2, c.f3, c.f4, true)) ∨ ((∀ c ∈ d :: r, Good c → LB c ≠ s.data.toList) ∧ X = some (0, ⟨#[]⟩, 0, 0, false, false))) := fun X h hn => by
      rcases h with ⟨c, hc, h⟩ | ⟨h, hX⟩
      · exact .inl ⟨c, List.mem_cons_of_mem _ hc, h⟩
      · refine .inr ⟨fun c hc hg => ?_, hX⟩
        rcases List.mem_cons.1 hc with rfl | hc
        · exact hn hg
        · exact h c hc hg
    by_cases c1 : rightD d = true
    · have hg : Good d := ⟨hd, c1⟩
      rw [if_pos c1, line_f d hg K (by omega), Option.bind_some]
      by_cases c2 : LB d = s.data.toList
      · rw [if_pos (by rw [Lib.toList_data, Lib.toList_data]; exact c2)]
        exact .inl ⟨d, by simp, hg, c2, rfl⟩
      · rw [if_neg (by rw [Lib.toList_data, Lib.toList_data]; exact c2)]
        exact up _ hnx (fun _ => c2)
    · rw [if_neg c1]
      exact up _ hnx (fun hg => absurd hg.r c1)
theorem number_at (s : ByteArray) (n : Int) (h : colophonref07_number.f 30 s 6 = some n) {K : Nat} (hK : 30 ≤ K) : colophonref07_number.f K s 6 = some n :=
  at_rounds (g := fun k => colophonref07_number.f k s 6) (fun k => colophonref07_number.mono s 6 k) hK h
theorem itoa_pos (n : Int) (h : 0 ≤ n ∧ n ≤ 1000) : 0 < (Lib.itoa n).length := by
  have := (by decide +kernel : ∀ n : Fin 1001, 0 < (Lib.itoa (n.val : Int)).length) ⟨n.toNat, by omega⟩
  rw [show ((⟨n.toNat, by omega⟩ : Fin 1001).val : Int) = n by simp; omega] at this
  exact this
/-- What the reference's piece tells of a line. -/
theorem piece_f (s : ByteArray) (hs : s.size ≤ 4194304) (K : Nat) (hK : 2 * s.size + 140000 ≤ K) :
    (∃ d, Good d ∧ LB d = s.data.toList ∧ colophonref07_piece.f K s = some (d.f0, d.f1, d.f2, d.f3, d.f4, true)) ∨ ((∀ d, Good d → LB d ≠ s.data.toList) ∧ colophonref07_piece.f K s = some (0, ⟨#[]⟩, 0, 0, false, false)) := by
  obtain ⟨K, rfl⟩ : ∃ m, K = m + 2 := ⟨K - 2, by omega⟩
  have hcz : (cutS s 5 s.size).size ≤ s.size := cut_le _ _ _
  obtain ⟨t0, hp⟩ := plain_tot (cutS s 5 s.size) (by omega) (K + 2) (by omega)
  obtain ⟨n0, hn⟩ := number_tot s hs (K + 1) (by omega)
  -- the candidates
  obtain ⟨C, hCd⟩ : ∃ C : List S33, C = [(⟨2, ⟨#[]⟩, 0, 0, false⟩ : S33), ⟨4, ⟨#[]⟩, 0, 0, false⟩, ⟨5, ⟨#[]⟩, 0, 0, false⟩, ⟨7, ⟨#[]⟩, 0, 0, false⟩] ++ (if 5 < s.size then [(⟨1, t0, 0, 0, false⟩ : S33)] else []) ++ (if 6 < s.size then [(⟨3, ⟨#[]⟩, n0, 0, false⟩ : S33), ⟨6, ⟨#[]⟩, 0, n0, false⟩, ⟨6, ⟨#[]⟩, 0, n0, true⟩] else []) := ⟨_, rfl⟩
  have hrun : colophonref07_piece.f (K + 2) s = colophonref07_piece.l0 K s C ((0 : Nat) : Int) := by
    unfold colophonref07_piece.f
    rw [Option.bind_some]
    have hj : ∀ x : List S33, x.length ≤ 10 → colophonref07_piece.j0 (K + 2) s x = colophonref07_piece.l0 K s (x ++ (if 6 < s.size then [(⟨3, ⟨#[]⟩, n0, 0, false⟩ : S33), ⟨6, ⟨#[]⟩, 0, n0, false⟩, ⟨6, ⟨#[]⟩, 0, n0, true⟩] else [])) ((0 : Nat) : Int) := fun x hx => by
      rw [show K + 2 = (K + 1) + 1 from rfl, colophonref07_piece.j0]
      by_cases c6 : 6 < s.size
      · rw [if_pos (by omega), hn, Option.bind_some, Option.bind_some, if_pos (by simp; omega), colophonref07_piece.j1, if_pos c6]; rfl
      · rw [if_neg (by omega), colophonref07_piece.j1, if_neg c6, List.append_nil]; rfl
    by_cases c5 : 5 < s.size
    · rw [if_pos (by omega), if_pos (by omega), hp, Option.bind_some, if_pos (by simp), hj _ (by simp), hCd, if_pos c5]
    · rw [if_neg (by omega), hj _ (by simp), hCd, if_neg c5, List.append_nil]
  have hC0 : ∀ c ∈ C, 0 ≤ c.f0 := fun c hc => by
    rw [hCd] at hc
    simp only [List.mem_append, List.mem_cons, List.not_mem_nil, or_false] at hc
    rcases hc with (((rfl | rfl | rfl | rfl) | hc) | hc)
    · show (0 : Int) ≤ 2; omega
    · show (0 : Int) ≤ 4; omega
    · show (0 : Int) ≤ 5; omega
    · show (0 : Int) ≤ 7; omega
    · split at hc
      · simp only [List.mem_singleton] at hc; rw [hc]; show (0 : Int) ≤ 1; omega
      · cases hc
    · split at hc
      · simp only [List.mem_cons, List.not_mem_nil, or_false] at hc
        rcases hc with rfl | rfl | rfl
        · show (0 : Int) ≤ 3; omega
        · show (0 : Int) ≤ 6; omega
        · show (0 : Int) ≤ 6; omega
      · cases hc
  have hCl : C.length ≤ 100 := by rw [hCd]; split <;> split <;> simp
  have hall : ∀ d, Good d → LB d = s.data.toList → d ∈ C := fun d hg hl => by
    have hsz : s.size = (LB d).length := by rw [← size_len, hl]
    obtain ⟨g1, g2, g3, g4, g5, g6, g7⟩ := good_ok hg
    obtain ⟨k0, t, n, i, e⟩ := d
    simp only at g1 g2 g3 g4 g5 g6 g7
    obtain ⟨k, rfl⟩ := Int.eq_ofNat_of_zero_le (show 0 ≤ k0 by omega)
    unfold LB at hl hsz
    simp only [Int.toNat_natCast] at hl hsz
    rw [hCd]
    rcases (by omega : k = 1 ∨ k = 2 ∨ k = 3 ∨ k = 4 ∨ k = 5 ∨ k = 6 ∨ k = 7) with rfl | rfl | rfl | rfl | rfl | rfl | rfl
    · obtain ⟨a, b, rfl, rfl, rfl⟩ := g4 rfl
      have hge := escL_ge t.data.toList
      rw [size_len] at hge
      have hlen : (lineB 1 t 0 0 false).length = 5 + (escL t.data.toList).length := by simp [lineB, wordB, wordsL]; omega
      have hc : (cutS s 5 s.size).data.toList = escL t.data.toList := by
        rw [cutL, List.take_of_length_le (by rw [List.length_drop, size_len]; exact Nat.le_refl _), ← hl]; simp [lineB, wordB, wordsL]
      have := plain_f t (cutS s 5 s.size) (by omega) hc (K + 2) (by omega)
      rw [hp] at this
      have ht := Option.some.inj this
      rw [if_pos (show 5 < s.size by omega), ht]
      simp
    · obtain ⟨rfl, rfl, rfl, rfl⟩ := g7 (by decide) (by decide) (by decide)
      simp
    · obtain ⟨a, b, rfl, rfl, rfl⟩ := g5 rfl
      have h0 := itoa_pos n ⟨a, b⟩
      have hlen : (lineB 3 ⟨#[]⟩ n 0 false).length = 6 + (Lib.itoa n).length := by simp [lineB, wordB, wordsL]; omega
      have hss : s = ⟨(wordB 3 ++ Lib.itoa n).toArray⟩ := ba_ext (by rw [← hl]; simp [lineB])
      have := num3 ⟨n.toNat, by omega⟩
      rw [show ((⟨n.toNat, by omega⟩ : Fin 1001).val : Int) = n by simp; omega, ← hss] at this
      have := number_at s n this (show 30 ≤ K + 1 by omega)
      rw [hn] at this
      have ht := Option.some.inj this
      rw [if_pos (show 6 < s.size by omega), ht]
      simp
    · obtain ⟨rfl, rfl, rfl, rfl⟩ := g7 (by decide) (by decide) (by decide)
      simp
    · obtain ⟨rfl, rfl, rfl, rfl⟩ := g7 (by decide) (by decide) (by decide)
      simp
    · obtain ⟨a, b, rfl, rfl⟩ := g6 rfl
      have h0 := itoa_pos i ⟨a, b⟩
      have hlen : 6 + (Lib.itoa i).length ≤ (lineB 6 ⟨#[]⟩ 0 i e).length := by simp [lineB, wordB, wordsL]; omega
      have hss : s = ⟨(wordB 6 ++ (Lib.itoa i ++ (if e = true then [32, 101, 118, 101, 110] else []))).toArray⟩ := ba_ext (by rw [← hl]; simp [lineB])
      have := num6 ⟨i.toNat, by omega⟩ e
      rw [show ((⟨i.toNat, by omega⟩ : Fin 1001).val : Int) = i by simp; omega, ← hss] at this
      have := number_at s i this (show 30 ≤ K + 1 by omega)
      rw [hn] at this
      have ht := Option.some.inj this
      rw [if_pos (show 6 < s.size by omega), ht]
      cases e <;> simp
    · obtain ⟨rfl, rfl, rfl, rfl⟩ := g7 (by decide) (by decide) (by decide)
      simp
  rw [hrun]
  rcases piece_l0 s C hC0 hCl C 0 K (by omega) rfl (by omega) with ⟨c, hc, h1, h2, h3⟩ | ⟨h1, h2⟩
  · exact .inl ⟨c, h1, h2, h3⟩
  · exact .inr ⟨fun d hg hl => h1 d (hall d hg hl) hg hl, h2⟩
end Go.Proofs.YtbdilejhbeffjaaDoor
end
section
namespace Go.Proofs.YtbdilejhbeffjaaDoor
open Go.RowKit Go.Lib Go.Proofs.YtbdilejhbeffjaaDoorW.PrintWords
open PDoc
set_option linter.unusedVariables false
set_option linter.unusedSimpArgs false
def formV (r : Int × Int) : Int := if r.1 = 0 then -1 else r.2
theorem form_l0 (L : List S33) (hL : L.length ≤ 2097152) (hz : ∀ d ∈ L, 0 ≤ d.f0) (r : List S33) : ∀ (i o K : Nat), i ≤ L.length → L.drop i = r → o ≤ i → 2 * r.length < K → colophonref07_Form.l0 K L (o : Int) (i : Int) = some (formV (chkGo r o i)) := by
  induction r with
  | nil =>
    intro i o K h0 h1 h2 h3
    obtain ⟨K, rfl⟩ : ∃ m, K = m + 1 := ⟨K - 1, by omega⟩
    have hi : L.length ≤ i := List.drop_eq_nil_iff.1 h1
    rw [colophonref07_Form.l0, if_neg (by omega)]
    unfold chkGo formV
    by_cases c : 0 < o
    · rw [if_pos (by omega), if_pos c, if_neg (by simp), show i = L.length by omega]
    · rw [if_neg (by omega), if_neg c, if_pos rfl]
  | cons d r ih =>
    intro i o K h0 h1 h2 h3
    simp only [List.length_cons] at h3
    obtain ⟨K, rfl⟩ : ∃ m, K = m + 2 := ⟨K - 2, by omega⟩
    obtain ⟨g1, g2, g3⟩ := drop_get L i d r h1
    have hd : 0 ≤ d.f0 := hz d (by rw [← g2, List.getD_eq_getElem?_getD, List.getElem?_eq_getElem g1]; exact List.getElem_mem g1)
    have hrd : rd_T33 L (i : Int) = d := by unfold rd_T33; rw [Int.toNat_natCast]; exact g2
    have e1 : Hid (wrap64 ((o : Int) + 1) = ((o + 1 : Nat) : Int)) := Lib.hid (by rw [w64 (by omega) (by omega)]; omega)
    have e2 : Hid (wrap64 ((i : Int) + 1) = ((i + 1 : Nat) : Int)) := Lib.hid (by rw [w64 (by omega) (by omega)]; omega)
    have e3 : Hid (wrap64 ((o : Int) - 1) = (o : Int) - 1) := Lib.hid (by rw [w64 (by omega) (by omega)])
    have hr : colophonref07_Right.f d.f0 d.f1 d.f2 d.f3 d.f4 = some (rightD d) := by unfold colophonref07_Right.f rightF rightD; rw [if_pos hd]
    have hfail : formV (70, (i : Int)) = (i : Int) := by unfold formV; rw [if_neg (by simp)]
    rw [show K + 2 = (K + 1) + 1 from rfl, colophonref07_Form.l0, if_pos (by omega), if_pos (by omega), hrd, hr, Option.bind_some, e1.out]
    unfold chkGo depB
    by_cases c1 : rightD d = true
    · rw [if_pos c1]
      by_cases c6 : d.f0 = 6
      · rw [if_pos c6, colophonref07_Form.j1, if_pos (by omega), if_pos (by omega), hrd, if_neg (by omega), if_neg (by omega), e2.out, ih (i + 1) (o + 1) K (by omega) g3 (by omega) (by omega), if_pos ⟨c1, by omega⟩, if_pos c6]
      · rw [if_neg c6, colophonref07_Form.j1, if_pos (by omega), if_pos (by omega), hrd, e3.out, e2.out]
        by_cases c7 : d.f0 = 7
        · rw [if_pos c7]
          by_cases c0 : o = 0
          · rw [if_pos (by omega), if_neg (by simp [c7, c0]), hfail]
          · rw [if_neg (by omega), show (o : Int) - 1 = ((o - 1 : Nat) : Int) by omega, ih (i + 1) (o - 1) K (by omega) g3 (by omega) (by omega), if_pos ⟨c1, by omega⟩, if_neg c6, if_pos c7]
        · rw [if_neg c7, if_neg (by omega), ih (i + 1) o K (by omega) g3 (by omega) (by omega), if_pos ⟨c1, by omega⟩, if_neg c6, if_neg c7]
    · rw [if_neg c1, if_neg (fun h => c1 h.1), hfail]
theorem chkGo_form (l : List S33) : ∀ o i, (chkGo l o i = (0, 0)) ∨ ((chkGo l o i).1 = 70 ∧ 0 ≤ (chkGo l o i).2) := by
  induction l with
  | nil =>
    intro o i
    unfold chkGo
    split
    · exact .inr ⟨rfl, by show (0 : Int) ≤ (i : Int); omega⟩
    · exact .inl rfl
  | cons d r ih =>
    intro o i
    unfold chkGo
    split
    · exact ih _ _
    · exact .inr ⟨rfl, by show (0 : Int) ≤ (i : Int); omega⟩
theorem rcheck_f (l : List S33) (hz : ∀ d ∈ l, 0 ≤ d.f0) (K : Nat) (hK : 2 * l.length < K) : colophonref07_Check.f K l = some (chkV l) := by
  unfold colophonref07_Check.f chkV
  by_cases c : 2097152 < l.length
  · rw [if_pos (by omega), if_pos c]
  · rw [if_neg (by omega), if_neg c]
    unfold colophonref07_Form.f
    have := form_l0 l (by omega) hz l 0 0 K (by omega) rfl (by omega) hK
    rw [show ((0 : Nat) : Int) = 0 from rfl] at this
    rw [this, Option.bind_some]
    rcases chkGo_form l 0 0 with h | ⟨h1, h2⟩
    · rw [h]; rfl
    · have hfv : formV (chkGo l 0 0) = (chkGo l 0 0).2 := by unfold formV; rw [if_neg (by omega)]
      rw [hfv, if_pos h2]
      congr 1
      exact Prod.ext h1.symm rfl
theorem rscan (s : ByteArray) (hs : s.size ≤ 4194304) (P Q : List UInt8) (h : s.data.toList = P ++ Q) (acc : List S33) (m : Nat) (hm : m ≤ Q.length) (hno : ∀ i, i < m → Q.getD i 0 ≠ 10) (d : Nat) : ∀ (j K : Nat), j + d = m →
    colophonref07_Parse.l0 (K + d) s acc (P.length : Int) ((P.length + j : Nat) : Int) = colophonref07_Parse.l0 K s acc (P.length : Int) ((P.length + m : Nat) : Int) := by
  induction d with
  | zero => intro j K hj; rw [show j = m by omega]; rfl
  | succ d ih =>
    intro j K hj
    obtain ⟨b0, e0⟩ := at_app h j (by omega)
    have hz : s.size = P.length + Q.length := by rw [← size_len, h, List.length_append]
    have e2 : Hid (wrap64 (((P.length + j : Nat) : Int) + 1) = ((P.length + (j + 1) : Nat) : Int)) := Lib.hid (by rw [w64 (by omega) (by omega)]; omega)
    have hn := hno j (by omega)
    have hne : ¬ (((Q.getD j 0).toNat : Nat) : Int) = 10 := fun e => hn (UInt8.toNat_inj.1 (by show (Q.getD j 0).toNat = 10; omega))
    rw [show K + (d + 1) = (K + d) + 1 by omega, colophonref07_Parse.l0, if_pos (by omega), if_pos (by omega), e0, if_neg hne, e2.out]
    exact ih (j + 1) K (by omega)
theorem not_ten (a : List UInt8) (h : (10 : UInt8) ∉ a) (b : List UInt8) : ∀ i, i < a.length → (a ++ b).getD i 0 ≠ 10 := fun i hi e => by
  rw [List.getD_eq_getElem?_getD, List.getElem?_append_left hi, List.getElem?_eq_getElem hi] at e
  exact h (by simp at e; rw [← e]; exact List.getElem_mem hi)
/-- The reference's parse, from a line's beginning on. -/
theorem rparse (s : ByteArray) (hs : s.size ≤ 4194304) (n : Nat) : ∀ (y : ByteArray) (P : List UInt8) (acc : List S33) (K K' : Nat), s.data.toList = P ++ y.data.toList → y.size ≤ n → (∀ d ∈ acc, Good d) → acc.length ≤ P.length →
    3 * s.size + 2 * s.size + 200000 + y.size ≤ K → 3 * y.size + 2 * s.size + 5 < K' →
    colophonref07_Parse.l0 K s acc (P.length : Int) ((P.length : Nat) : Int) = doc_Parse.l0 K' y acc := by
  induction n with
  | zero =>
    intro y P acc K K' h hy hg ha hK hK'
    have hnil : y.data.toList = [] := List.length_eq_zero_iff.1 (by rw [size_len]; omega)
    have hz : s.size = P.length := by rw [← size_len, h, hnil, List.append_nil]
    obtain ⟨K, rfl⟩ : ∃ m, K = m + 1 := ⟨K - 1, by omega⟩
    obtain ⟨K', rfl⟩ : ∃ m, K' = m + 1 := ⟨K' - 1, by omega⟩
    rw [colophonref07_Parse.l0, if_neg (by omega), if_neg (by omega), rcheck_f acc (fun d hd => (hg d hd).a) K (by omega), doc_Parse.l0, if_pos (by rw [Lib.toList_data]; exact hnil), check_f acc (fun d hd => (hg d hd).a) K' (by omega)]
  | succ n ih =>
    intro y P acc K K' h hy hg ha hK hK'
    by_cases hnil : y.data.toList = []
    · have hz : y.size = 0 := by rw [← size_len, hnil]; rfl
      exact ih y P acc K K' h (by omega) hg ha hK hK'
    have hz : s.size = P.length + y.size := by rw [← size_len, h, List.length_append, size_len]
    have hyz : y.size ≠ 0 := fun e => hnil (List.length_eq_zero_iff.1 (by rw [size_len]; exact e))
    obtain ⟨K', rfl⟩ : ∃ m, K' = m + 1 := ⟨K' - 1, by omega⟩
    rw [doc_Parse.l0, if_neg (by rw [Lib.toList_data]; exact hnil)]
    rcases split_ten y.data.toList with hno | ⟨a, b, hab, hta⟩
    · have hsc := rscan s hs P y.data.toList h acc y.size (by rw [size_len]; exact Nat.le_refl _) (fun i hi => by have := not_ten y.data.toList hno [] i (by rw [size_len]; exact hi); rwa [List.append_nil] at this) y.size 0 (K - y.size) (by omega)
      rw [show K - y.size + y.size = K by omega] at hsc
      obtain ⟨k, t, m, i, e, ok, hr, _⟩ := read_tot y (by omega)
      rw [show ((P.length : Nat) : Int) = ((P.length + 0 : Nat) : Int) from rfl] at hsc ⊢
      rw [hsc, cut_none y (by omega) hno, Option.bind_some, hr, Option.bind_some]
      obtain ⟨J, hJ⟩ : ∃ J, K - y.size = J + 1 := ⟨K - y.size - 1, by omega⟩
      rw [hJ, colophonref07_Parse.l0, if_neg (by omega), if_pos (by omega)]
      cases ok <;> simp
    · obtain ⟨x, z, hc, hx, hzz, hxz, hzl⟩ := cut_ten y (by omega) a b hab hta
      have hal : x.size = a.length := by rw [← size_len, hx]
      have hylen : y.size = a.length + 1 + z.size := by rw [← size_len, hab, ← size_len z, hzz]; simp; omega
      have hsc := rscan s hs P y.data.toList h acc a.length (by rw [size_len]; omega) (fun i hi => by rw [hab]; exact not_ten a hta _ i hi) a.length 0 (K - a.length) (by omega)
      rw [show K - a.length + a.length = K by omega] at hsc
      rw [show ((P.length : Nat) : Int) = ((P.length + 0 : Nat) : Int) from rfl] at hsc ⊢
      rw [hsc, hc, Option.bind_some]
      obtain ⟨J, hJ⟩ : ∃ J, K - a.length = J + 1 := ⟨K - a.length - 1, by omega⟩
      obtain ⟨b0, e0⟩ := at_app h a.length (by rw [size_len]; omega)
      have e0 : bt s ((P.length + a.length : Nat) : Int) = 10 := by rw [e0, hab]; simp
      have hxs : cutS s P.length (P.length + a.length) = x := ba_ext (by rw [cutL, h, hab, hx]; simp)
      have e2 : Hid (wrap64 (((P.length + a.length : Nat) : Int) + 1) = ((P.length + a.length + 1 : Nat) : Int)) := Lib.hid (by rw [w64 (by omega) (by omega)]; omega)
      rw [hJ, colophonref07_Parse.l0, if_pos (by omega), if_pos (by omega), e0, if_pos rfl, if_pos (by omega), if_pos (by omega), if_pos (by omega), Nat.add_zero, Int.toNat_natCast, Int.toNat_natCast, hxs, e2.out]
      rcases piece_f x (by omega) J (by omega) with ⟨d, h1, h2, h3⟩ | ⟨h1, h2⟩
      · rw [h3, Option.bind_some, read_line d h1 x h2.symm (by omega), Option.bind_some]
        simp only
        rw [if_pos trivial, if_pos trivial, if_pos (by omega), if_pos trivial, if_pos (by omega)]
        have := ih z (P ++ a ++ [10]) (acc ++ [(⟨d.f0, d.f1, d.f2, d.f3, d.f4⟩ : S33)]) J K' (by rw [h, hab, hzz]; simp) (by omega) (fun q hq => by
          rcases List.mem_append.1 hq with hq | hq
          · exact hg q hq
          · simp only [List.mem_singleton] at hq; rw [hq]; exact h1) (by simp; omega) (by omega) (by omega)
        have hl9 : (P ++ a ++ ([10] : List UInt8)).length = P.length + a.length + 1 := by rw [List.length_append, List.length_append, List.length_singleton]
        rw [hl9] at this
        exact this
      · obtain ⟨k, t, m, i, e, ok, hr, hgood⟩ := read_tot x (by omega)
        rw [h2, Option.bind_some, hr, Option.bind_some]
        cases ok with
        | true => obtain ⟨q1, q2⟩ := hgood rfl; exact absurd q2 (h1 _ q1)
        | false => simp
end Go.Proofs.YtbdilejhbeffjaaDoor
end
