/- The program's scan tells what the plain one tells. All tokens of a source: the program's row is the plain one. Plain laws of the scan that several statements share. -/
import Derived.Test.YtdphhmigbbgjmaaGreatDoorM4
import Derived.Test.YtdphhmigbbgjmaaGreatDoorPScan
section
namespace Go.Proofs.YtdphhmigbbgjmaaGreatDoor
open Go.RowKit Go.Lib
open PScan
set_option linter.unusedVariables false
theorem w64 {x : Int} (h1 : -9223372036854775808 ≤ x) (h2 : x ≤ 9223372036854775807) : wrap64 x = x := by unfold wrap64; omega
theorem next_f (s : ByteArray) (e : Nat) (hs : s.size < 4611686018427387904) : scan_next.f s (e : Int) = some (pOf s e, ((nOf s e : Nat) : Int), gOf s e) := by
  unfold scan_next.f
  rw [if_pos hs]
  have := nxT_bd s e
  have h2 : (nxT s e).2.1 = ((nOf s e : Nat) : Int) := by unfold nOf; omega
  rw [← h2]; rfl
theorem control_f (p : Int) (g : Bool) : scan_control.f p g = some (g && (decide (p < 32) || decide (p = 127))) := by
  unfold scan_control.f
  cases g
  · rfl
  · rw [if_pos rfl]
    by_cases h1 : p < 32
    · rw [if_pos h1]; simp [h1]
    · rw [if_neg h1]
      by_cases h2 : p = 127
      · subst h2; rfl
      · simp [h1, h2]
theorem ite_some {α : Type} (c : Prop) [Decidable c] (x y : α) : (if c then some x else some y) = some (if c then x else y) := by split <;> rfl
theorem ff : ¬ (false = true) := by simp
theorem single_f (s : ByteArray) (a b : Nat) (hs : s.size < 4611686018427387904) (hb : b ≤ s.size) (k : Nat) : scan_single.f (k + 2) s (a : Int) (b : Int) = some (sgV s a b) := by
  have hn := nOf_bd s b
  have he := nOf_end s b
  have j1 : ∀ (x : Bool), scan_single.j0 (k + 2) s (a : Int) (b : Int) (pOf s b) ((nOf s b : Nat) : Int) (gOf s b) x = if x = true then some (0, (a : Int), 101) else if pOf s b = 39 ∨ ctlB s b = true then some (0, (b : Int), 102) else
      if ¬ b + nOf s b < s.size ∨ pOf s (b + nOf s b) = 10 then some (0, (a : Int), 101) else if pOf s (b + nOf s b) = 39 then some (5, ((b + nOf s b + nOf s (b + nOf s b) : Nat) : Int), 0) else some (0, ((b + nOf s b : Nat) : Int), 102) := fun x => by
    simp only [scan_single.j0]
    cases x
    · rw [if_neg ff, if_neg ff]
      by_cases c1 : pOf s b = 39
      · rw [if_pos c1, if_pos (.inl c1)]
      · rw [if_neg c1, control_f]
        simp only [Option.bind_some]
        by_cases c2 : ctlB s b = true
        · rw [if_pos (show (gOf s b && (decide (pOf s b < 32) || decide (pOf s b = 127))) = true from c2), if_pos (show pOf s b = 39 ∨ ctlB s b = true from .inr c2)]
        · rw [if_neg (show ¬ ((gOf s b && (decide (pOf s b < 32) || decide (pOf s b = 127))) = true) from c2), if_neg (show ¬ (pOf s b = 39 ∨ ctlB s b = true) from fun h => h.elim c1 c2)]
          rw [w64 (by omega) (by have := nxT_bd s b; unfold nOf; omega)]
          rw [show (b : Int) + ((nOf s b : Nat) : Int) = ((b + nOf s b : Nat) : Int) by omega, next_f s _ hs]
          simp only [Option.bind_some]
          have hn2 := nOf_bd s (b + nOf s b)
          have he2 := nOf_end s (b + nOf s b)
          have j2 : ∀ y : Bool, scan_single.j1 (k + 1) (a : Int) ((b + nOf s b : Nat) : Int) (pOf s (b + nOf s b)) ((nOf s (b + nOf s b) : Nat) : Int) y = if y = true then some (0, (a : Int), 101) else if pOf s (b + nOf s b) = 39 then some (5, ((b + nOf s b + nOf s (b + nOf s b) : Nat) : Int), 0) else some (0, ((b + nOf s b : Nat) : Int), 102) := fun y => by
            simp only [scan_single.j1]
            have hbd := nxT_bd s b
            have hbd2 := nxT_bd s (b + nOf s b : Nat)
            rw [w64 (by omega) (by unfold nOf at *; omega)]
            rw [show ((b + nOf s b : Nat) : Int) + ((nOf s (b + nOf s b) : Nat) : Int) = ((b + nOf s b + nOf s (b + nOf s b) : Nat) : Int) by omega]
          rw [j2, j2]
          by_cases c3 : b + nOf s b < s.size
          · rw [if_neg (by have := hn2 c3; omega)]
            by_cases c4 : pOf s (b + nOf s b) = 10
            · rw [if_pos (show (pOf s (b + nOf s b) == 10) = true by simp [c4]), if_pos (show ¬ b + nOf s b < s.size ∨ pOf s (b + nOf s b) = 10 from .inr c4)]
            · rw [if_neg (show ¬ ((pOf s (b + nOf s b) == 10) = true) by simp [c4]), if_neg (show ¬ (¬ b + nOf s b < s.size ∨ pOf s (b + nOf s b) = 10) from fun h => h.elim (fun h => h c3) c4)]
          · rw [if_pos (show ((nOf s (b + nOf s b) : Nat) : Int) = 0 by have := (he2 (by omega)).1; omega), if_pos rfl, if_pos (show ¬ b + nOf s b < s.size ∨ pOf s (b + nOf s b) = 10 from .inl c3)]
    · rw [if_pos rfl, if_pos rfl]
  unfold scan_single.f sgV
  rw [next_f s b hs]
  simp only [Option.bind_some]
  rw [j1, j1]
  simp only [ite_some]
  congr 1
  by_cases c0 : b < s.size
  · rw [if_neg (show ¬ (((nOf s b : Nat) : Int) = 0) by have := hn c0; omega)]
    by_cases c1 : pOf s b = 10
    · rw [if_pos (show (pOf s b == 10) = true by simp [c1]), if_pos (show ¬ b < s.size ∨ pOf s b = 10 from .inr c1)]
    · rw [if_neg (show ¬ ((pOf s b == 10) = true) by simp [c1]), if_neg (show ¬ (¬ b < s.size ∨ pOf s b = 10) from fun h => h.elim (fun h => h c0) c1)]
  · rw [if_pos (show ((nOf s b : Nat) : Int) = 0 by have := (he (by omega)).1; omega), if_pos trivial, if_pos (show ¬ b < s.size ∨ pOf s b = 10 from .inl c0)]
theorem prefix_f (t p : ByteArray) : strings_HasPrefix.f t p = some (Lib.hasPrefix t.data.toList p.data.toList) := by
  unfold strings_HasPrefix.f stringslite_HasPrefix.f
  by_cases h : (t.size : Int) ≥ (p.size : Int)
  · rw [if_pos h, if_pos (by omega), if_pos (by omega)]
    simp only [Option.bind_some, Option.some.injEq, Int.toNat_natCast]
    rw [Lib.toList_data, Lib.toList_data, cut_list, List.drop_zero, Nat.sub_zero]
    unfold Lib.hasPrefix
    rw [Bool.eq_iff_iff, beq_iff_eq, List.isPrefixOf_iff_prefix, ← size_len p]
    constructor
    · intro h; rw [← h]; exact List.take_prefix _ _
    · intro h; exact (List.prefix_iff_eq_take.1 h).symm
  · rw [if_neg h]
    simp only [Option.bind_some, Option.some.injEq]
    unfold Lib.hasPrefix
    symm
    rw [← Bool.not_eq_true, List.isPrefixOf_iff_prefix]
    intro hp
    have := hp.length_le
    rw [size_len, size_len] at this
    omega
theorem slash_f (s : ByteArray) (a : Nat) (ha : a ≤ s.size) : strings_HasPrefix.f (cutS s a s.size) (⟨#[47, 47]⟩ : ByteArray) = some (slB s a) := by
  rw [prefix_f, cut_list, List.take_of_length_le (by rw [List.length_drop, size_len]; omega)]; rfl
theorem sign_f (s : ByteArray) (a : Nat) (ha : a < s.size) (hs : s.size < 4611686018427387904) : class_Sign.f s (a : Int) = some ⟨(signL (s.data.toList.drop a)).toArray⟩ := by
  unfold class_Sign.f signS
  rw [if_pos hs, if_pos (by omega)]
  simp
theorem one_f (s : ByteArray) (a : Nat) (hs : s.size < 1099511627776) (ha : a < s.size) (k : Nat) : scan_one.f (k + 5) s (a : Int) = some (oneV s a) := by
  have hs' : s.size < 4611686018427387904 := by omega
  have hn := nOf_bd s a ha
  have hp := pOf_bd s a
  have hadd : wrap64 ((a : Int) + ((nOf s a : Nat) : Int)) = ((a + nOf s a : Nat) : Int) := by rw [w64 (by omega) (by omega)]; omega
  have hin : inB s (a : Int) ((a + nOf s a : Nat) : Int) := by unfold inB; omega
  have eta : ∀ r : Int × Int × Int, some (r.1, r.2.1, r.2.2) = some r := fun _ => rfl
  have t1 : scan_named.f s (a : Int) ((a + nOf s a : Nat) : Int) = some (nmGo s a (s.size + 1) (a + nOf s a)) := by unfold scan_named.f; rw [if_pos hin]; simp only [Int.toNat_natCast]
  have t2 : scan_numbered.f s (a : Int) ((a + nOf s a : Nat) : Int) = some (nbGo s a (s.size + 1) (a + nOf s a)) := by unfold scan_numbered.f; rw [if_pos hin]; simp only [Int.toNat_natCast]
  have t3 : scan_quoted.f s (a : Int) ((a + nOf s a : Nat) : Int) = some (qtGo s a (s.size + 1) (a + nOf s a)) := by unfold scan_quoted.f; rw [if_pos hin]; simp only [Int.toNat_natCast]
  have t4 : scan_comment.f s (a : Int) ((a + nOf s a : Nat) : Int) = some (cmGo s a ((byteAt s a : Int) == 47) (s.size + 1) (a + nOf s a)) := by unfold scan_comment.f; rw [if_pos ⟨hin, by omega⟩]; simp only [Int.toNat_natCast]
  have j2 : ∀ (x : Bool), scan_one.j2 (k + 3) s (a : Int) ((nOf s a : Nat) : Int) x = if x = true then some (cmGo s a ((byteAt s a : Int) == 47) (s.size + 1) (a + nOf s a)) else if signL (s.data.toList.drop a) = [] then some (0, (a : Int), 100) else some (6, ((a + (signL (s.data.toList.drop a)).length : Nat) : Int), 0) := fun x => by
    simp only [scan_one.j2]
    rw [hadd, t4, sign_f s a ha hs']
    simp only [Option.bind_some, eta]
    cases x
    · rw [if_neg ff, if_neg ff]
      rw [Lib.toList_data]
      by_cases c : signL (s.data.toList.drop a) = []
      · rw [if_pos c, if_pos c]
      · rw [if_neg c, if_neg c]
        have hle : (signL (s.data.toList.drop a)).length ≤ 2 := by
          unfold signL
          repeat' split
          all_goals simp
        have hz : ((⟨(signL (s.data.toList.drop a)).toArray⟩ : ByteArray).size : Int) = ((signL (s.data.toList.drop a)).length : Int) := by rw [Lib.size_eq]
        rw [hz, w64 (by omega) (by omega)]
        rfl
    · rw [if_pos rfl, if_pos rfl]
  have j1 : ∀ (x : Bool), scan_one.j1 (k + 4) s (a : Int) (pOf s a) ((nOf s a : Nat) : Int) x = if x = true then some (nbGo s a (s.size + 1) (a + nOf s a)) else if pOf s a = 34 then some (qtGo s a (s.size + 1) (a + nOf s a)) else if pOf s a = 39 then some (sgV s a (a + nOf s a)) else
      if pOf s a = 123 ∨ slB s a = true then some (cmGo s a ((byteAt s a : Int) == 47) (s.size + 1) (a + nOf s a)) else if signL (s.data.toList.drop a) = [] then some (0, (a : Int), 100) else some (6, ((a + (signL (s.data.toList.drop a)).length : Nat) : Int), 0) := fun x => by
    simp only [scan_one.j1]
    rw [hadd, t2, t3, single_f s a (a + nOf s a) hs' hn.2.2, Int.toNat_natCast, slash_f s a (by omega)]
    simp only [Option.bind_some, eta]
    rw [if_pos (show (0 : Int) ≤ (a : Int) by omega), if_pos (show (a : Int) ≤ (s.size : Int) by omega), j2, j2]
    cases x
    · simp only [Bool.false_eq_true, ↓reduceIte]
      by_cases c1 : pOf s a = 34
      · rw [if_pos c1, if_pos c1]
      rw [if_neg c1, if_neg c1]
      by_cases c2 : pOf s a = 39
      · rw [if_pos c2, if_pos c2]
      rw [if_neg c2, if_neg c2]
      by_cases c3 : pOf s a = 123
      · simp [c3]
      · by_cases c4 : slB s a = true
        · simp [c3, c4]
        · simp [c3, c4]
    · simp only [↓reduceIte]
  have j0 : ∀ (x : Bool), scan_one.j0 (k + 5) s (a : Int) (pOf s a) ((nOf s a : Nat) : Int) x = if x = true then some (nmGo s a (s.size + 1) (a + nOf s a)) else if 48 ≤ pOf s a ∧ pOf s a ≤ 57 then some (nbGo s a (s.size + 1) (a + nOf s a)) else if pOf s a = 34 then some (qtGo s a (s.size + 1) (a + nOf s a)) else if pOf s a = 39 then some (sgV s a (a + nOf s a)) else
      if pOf s a = 123 ∨ slB s a = true then some (cmGo s a ((byteAt s a : Int) == 47) (s.size + 1) (a + nOf s a)) else if signL (s.data.toList.drop a) = [] then some (0, (a : Int), 100) else some (6, ((a + (signL (s.data.toList.drop a)).length : Nat) : Int), 0) := fun x => by
    simp only [scan_one.j0]
    rw [hadd, t1, j1, j1]
    simp only [Option.bind_some, eta]
    cases x
    · simp only [Bool.false_eq_true, ↓reduceIte]
      by_cases c1 : 48 ≤ pOf s a
      · by_cases c2 : pOf s a ≤ 57
        · simp [c1, c2]
        · simp [c1, c2]
      · simp [c1]
    · simp only [↓reduceIte]
  unfold scan_one.f oneV
  rw [next_f s a hs']
  simp only [Option.bind_some]
  rw [w64 (by omega) (by omega)]
  unfold class_Letter.f
  simp only [Option.bind_some]
  rw [j0, j0]
  simp only [ite_some]
  congr 1
  by_cases c1 : gOf s a = true
  · by_cases c2 : ltrB (pOf s a) = true
    · simp [c1, c2]
    · simp [c1, c2]
  · simp [c1]
end Go.Proofs.YtdphhmigbbgjmaaGreatDoor
end
section
namespace Go.Proofs.YtdphhmigbbgjmaaGreatDoor
open Go.RowKit Go.Lib
open PScan
set_option linter.unusedVariables false
set_option linter.unusedSimpArgs false
def txV (s : ByteArray) (m : Nat) (r : Int × Int × Int) : ByteArray := if r.1 = 7 then ⟨(Lib.trimRightS (cutS s m r.2.1.toNat).data.toList [32, 9, 13]).toArray⟩ else cutS s m r.2.1.toNat
/-- The token that begins at m, read from a on. -/
def tkV (s : ByteArray) (a m : Nat) (r : Int × Int × Int) : S48 := ⟨r.1, txV s m r, ⟨(plT s m).1, (plT s m).2.1, (plT s m).2.2⟩, ((nlAt s m - nlAt s a : Nat) : Int)⟩
/-- The tokens from a place on; what is wrong, and where. -/
def scS (s : ByteArray) : Nat → Nat → List S48 × Int × Nat
  | 0, _ => ([], 0, 0)
  | k + 1, a => if wsE s a = s.size then ([], 0, 0)
    else if (oneV s (wsE s a)).2.2 = 0 then (tkV s a (wsE s a) (oneV s (wsE s a)) :: (scS s k (oneV s (wsE s a)).2.1.toNat).1, (scS s k (oneV s (wsE s a)).2.1.toNat).2)
    else ([], (oneV s (wsE s a)).2.2, (oneV s (wsE s a)).2.1.toNat)
def erP (s : ByteArray) (x : Int × Nat) : Int × Int × Int := if x.1 = 0 then (0, 0, 0) else plT s x.2
theorem trim_f (s : ByteArray) (a : Nat) (h : CB s a) : ∃ t, strings_TrimLeft.f (cutS s a s.size) (⟨#[32, 9, 13, 10]⟩ : ByteArray) = some t ∧ t.size = s.size - wsE s a := by
  unfold strings_TrimLeft.f
  rw [if_pos ⟨by decide, by decide⟩]
  refine ⟨_, rfl, ?_⟩
  rw [Lib.size_eq]
  simp only
  rw [cut_list, List.take_of_length_le (by rw [List.length_drop, size_len]; exact Nat.le_refl _)]
  show (Lib.trimLeftS (List.drop a s.data.toList) [32, 9, 13, 10]).length = _
  rw [ws_drop, List.length_drop, List.length_drop, size_len]
  unfold wsE; omega
theorem count_f (s : ByteArray) (a b : Nat) (hb : b ≤ s.size) (hab : a ≤ b) : strings_Count.f (cutS s a b) (⟨#[10]⟩ : ByteArray) = some ((nlAt s b - nlAt s a : Nat) : Int) := by
  unfold strings_Count.f
  rw [if_pos rfl, countByte_nl, cut_size s a b hb]
  obtain ⟨h1, _⟩ := cut_nl s a b (b - a) (Nat.le_refl _)
  rw [show a + (b - a) = b by omega] at h1
  congr 1
  omega
theorem adv_f (s : ByteArray) (a b : Nat) (h : CB s a) (hab : a ≤ b) (hb : b ≤ s.size) (hs : s.size < 1099511627776) : place_Advance.f (plT s a).1 (plT s a).2.1 (plT s a).2.2 (cutS s a b) = some (plT s b) := by
  unfold place_Advance.f
  rw [if_pos (by rw [cut_size s a b hb]; omega)]
  congr 1
  exact adv_join s a b h hab hb (by omega)
theorem right_f (t : ByteArray) (h : t.size < 1099511627776) : strings_TrimRight.f t (⟨#[32, 9, 13]⟩ : ByteArray) = some ⟨(Lib.trimRightS t.data.toList [32, 9, 13]).toArray⟩ := by
  unfold strings_TrimRight.f
  rw [if_pos ⟨by omega, by decide, by decide⟩]
set_option maxHeartbeats 2000000 in
theorem all_l0 (s : ByteArray) (hs : s.size < 1099511627776) : ∀ (k : Nat) (acc : List S48) (a : Nat), CB s a → s.size < a + k → acc.length ≤ a →
    scan_All.l0 (k + 6) s acc (a : Int) (plT s a).1 (plT s a).2.1 (plT s a).2.2 = some (acc ++ (scS s k a).1, (scS s k a).2.1, (erP s (scS s k a).2).1, (erP s (scS s k a).2).2.1, (erP s (scS s k a).2).2.2)
  | 0, acc, a, h, h1, _ => by have := h.1; omega
  | k + 1, acc, a, h, h1, h2 => by
    obtain ⟨w1, w2, w3⟩ := wsE_fin s a h
    obtain ⟨t, ht, htz⟩ := trim_f s a h
    have ha := h.1
    have hM : wrap64 ((a : Int) + wrap64 (((cutS s a s.size).size : Int) - (t.size : Int))) = ((wsE s a : Nat) : Int) := by
      have e1 : wrap64 (((s.size - a : Nat) : Int) - ((s.size - wsE s a : Nat) : Int)) = ((wsE s a - a : Nat) : Int) := by rw [w64 (by omega) (by omega)]; omega
      rw [cut_size s a s.size (Nat.le_refl _), htz, e1, w64 (by omega) (by omega)]; omega
    obtain ⟨K, hK⟩ : ∃ K, K = k + 6 := ⟨_, rfl⟩
    rw [show k + 1 + 6 = K + 1 by omega]
    simp only [scan_All.l0, Int.toNat_natCast]
    rw [if_pos (show (0 : Int) ≤ (a : Int) by omega), if_pos (show (a : Int) ≤ (s.size : Int) by omega), ht]
    simp only [Option.bind_some]
    rw [hM]
    simp only [Int.toNat_natCast]
    rw [if_pos (show (a : Int) ≤ ((wsE s a : Nat) : Int) by omega), if_pos (show ((wsE s a : Nat) : Int) ≤ (s.size : Int) by omega), count_f s a _ w2 w1, adv_f s a _ h w1 w2 hs]
    simp only [Option.bind_some]
    unfold scS
    by_cases c1 : wsE s a = s.size
    · rw [if_pos (show ((wsE s a : Nat) : Int) = (s.size : Int) by omega), if_pos c1]
      simp [erP]
    rw [if_neg (show ¬ (((wsE s a : Nat) : Int) = (s.size : Int)) by omega), if_neg c1, show scan_one.f K s ((wsE s a : Nat) : Int) = some (oneV s (wsE s a)) by rw [show K = (k + 1) + 5 by omega]; exact one_f s _ hs (by omega) (k + 1)]
    simp only [Option.bind_some]
    obtain ⟨m, q1, q2, q3, q4, q5⟩ := one_fin s (wsE s a) (by omega) w3
    have hm : (oneV s (wsE s a)).2.1.toNat = m := by rw [q1]; simp
    by_cases c2 : (oneV s (wsE s a)).2.2 = 0
    · have q6 := q5 c2
      rw [if_pos c2, if_pos c2, hm, q1]
      rw [if_pos (show (0 : Int) ≤ ((wsE s a : Nat) : Int) by omega), if_pos (show ((wsE s a : Nat) : Int) ≤ (m : Int) by omega), if_pos (show (m : Int) ≤ (s.size : Int) by omega), adv_f s _ m w3 q2 q3 hs]
      have ih := fun x => all_l0 s hs k (acc ++ [x]) m q4 (by omega) (by simp; omega)
      rw [right_f _ (by rw [cut_size s _ m q3]; omega)]
      simp only [Option.bind_some]
      rw [← hK] at ih
      have htx : tkV s a (wsE s a) (oneV s (wsE s a)) = ⟨(oneV s (wsE s a)).1, if (oneV s (wsE s a)).1 = 7 then ⟨(Lib.trimRightS (cutS s (wsE s a) m).data.toList [32, 9, 13]).toArray⟩ else cutS s (wsE s a) m, ⟨(plT s (wsE s a)).1, (plT s (wsE s a)).2.1, (plT s (wsE s a)).2.2⟩, ((nlAt s (wsE s a) - nlAt s a : Nat) : Int)⟩ := by unfold tkV txV; rw [hm]
      rw [htx]
      by_cases c3 : (oneV s (wsE s a)).1 = 7
      · rw [if_pos c3, if_pos c3, if_pos (show acc.length < 2513169434916 by omega), ih]
        simp [List.append_assoc]
      · rw [if_neg c3, if_neg c3, if_pos (show acc.length < 2513169434916 by omega), ih]
        simp [List.append_assoc]
    · rw [if_neg c2, if_neg c2, hm, q1]
      rw [if_pos (show (0 : Int) ≤ ((wsE s a : Nat) : Int) by omega), if_pos (show ((wsE s a : Nat) : Int) ≤ (m : Int) by omega), if_pos (show (m : Int) ≤ (s.size : Int) by omega), adv_f s _ m w3 q2 q3 hs]
      simp only [Option.bind_some, List.append_nil]
      unfold erP
      rw [if_neg c2]
def scV (s : ByteArray) : List S48 × Int × Nat := scS s (s.size + 1) 0
def allV (s : ByteArray) : List S48 × Int × Int × Int × Int := ((scV s).1, (scV s).2.1, erP s (scV s).2)
theorem all_f (s : ByteArray) (hs : s.size < 1099511627776) : scan_All.f (s.size + 7) s = some (allV s) := by
  unfold scan_All.f place_Start.f
  simp only [Option.bind_some]
  have := all_l0 s hs (s.size + 1) [] 0 (CB_zero s) (by omega) (Nat.le_refl _)
  have e0 : plT s 0 = (0, 1, 1) := by simp [plT, nlAt, colN, cnt_nil]
  rw [e0] at this
  exact this
end Go.Proofs.YtdphhmigbbgjmaaGreatDoor
end
section
namespace Go.Proofs.YtdphhmigbbgjmaaGreatDoor
open Go.RowKit Go.Lib
open PScan
open Go.Proofs.YtdphhmigbbgjmaaGreatDoorW.PrintWords
set_option linter.unusedVariables false
set_option linter.unusedSimpArgs false
theorem bt_byte (s : ByteArray) (i : Nat) (h : i < s.size) : bt s (i : Int) = ((byteAt s i : Nat) : Int) := by
  unfold bt
  rw [dif_pos (by rw [Int.toNat_natCast]; exact h)]
  congr 1
  exact byteAt_get s i h
theorem ws_at (s : ByteArray) (a j : Nat) (h : a + j < wsE s a) : byteAt s (a + j) = 10 ∨ blnB ((byteAt s (a + j) : Nat) : Int) = true := by
  have h1 := ws_bytes (s.data.toList.drop a) j (by unfold wsE at h; omega)
  have h2 := byteAt_drop s a j
  generalize (s.data.toList.drop a).getD j 0 = c at h1 h2
  simp [wsB] at h1
  rw [← h2]
  rcases h1 with h | h | h | h <;> rw [h] <;> simp [blnB]
theorem ws_stop (l : Bs) (h : wsN l < l.length) : wsB (l.getD (wsN l) 0) = false := by
  induction l with
  | nil => simp at h
  | cons b r ih =>
    unfold wsN at *
    by_cases hb : wsB b = true
    · rw [List.takeWhile_cons, if_pos hb] at h ⊢
      simpa using ih (by simpa using h)
    · rw [List.takeWhile_cons, if_neg hb] at h ⊢
      simpa using hb
theorem ws_end (s : ByteArray) (a : Nat) (h : wsE s a < s.size) (ha : a ≤ s.size) : byteAt s (wsE s a) ≠ 10 ∧ blnB ((byteAt s (wsE s a) : Nat) : Int) = false := by
  have h1 := ws_stop (s.data.toList.drop a) (by rw [List.length_drop, size_len]; unfold wsE at h; omega)
  have h2 := byteAt_drop s a (wsN (s.data.toList.drop a))
  rw [show a + wsN (s.data.toList.drop a) = wsE s a from rfl] at h2
  have hne : ∀ c : UInt8, wsB c = false → c.toNat ≠ 10 ∧ c.toNat ≠ 32 ∧ c.toNat ≠ 9 ∧ c.toNat ≠ 13 := fun c hc => by
    simp [wsB] at hc
    obtain ⟨q1, q2, q3, q4⟩ := hc
    exact ⟨fun e => q4 (UInt8.toNat_inj.1 e), fun e => q1 (UInt8.toNat_inj.1 e), fun e => q2 (UInt8.toNat_inj.1 e), fun e => q3 (UInt8.toNat_inj.1 e)⟩
  have := hne _ h1
  rw [h2] at this
  refine ⟨this.1, ?_⟩
  simp [blnB]; omega
theorem nl_mono (s : ByteArray) (a : Nat) : ∀ n, nlAt s a ≤ nlAt s (a + n)
  | 0 => Nat.le_refl _
  | n + 1 => by
    have := nl_mono s a n
    rw [← Nat.add_assoc]
    have e : nlAt s (a + n + 1) = if byteAt s (a + n) = 10 then nlAt s (a + n) + 1 else nlAt s (a + n) := rfl
    rw [e]; split <;> omega
theorem trimR_snoc (l : Bs) (x : UInt8) : Lib.trimRightS (l ++ [x]) [32, 9, 13] = if ([32, 9, 13] : Bs).contains x = true then Lib.trimRightS l [32, 9, 13] else l ++ [x] := by
  unfold Lib.trimRightS
  rw [List.reverse_append, List.reverse_singleton, List.singleton_append, List.dropWhile_cons]
  split
  · rfl
  · simp
theorem bln_has (x : UInt8) : blnB ((x.toNat : Nat) : Int) = ([32, 9, 13] : Bs).contains x := by
  rw [Bool.eq_iff_iff]
  simp [blnB]
  constructor
  · rintro (h | h | h)
    · exact .inl (UInt8.toNat_inj.1 (by show x.toNat = 32; omega))
    · exact .inr (.inl (UInt8.toNat_inj.1 (by show x.toNat = 9; omega)))
    · exact .inr (.inr (UInt8.toNat_inj.1 (by show x.toNat = 13; omega)))
  · rintro (rfl | rfl | rfl) <;> simp
theorem sc_len (s : ByteArray) (k : Nat) : ∀ a, CB s a → s.size < a + k → (scS s k a).1.length + a ≤ s.size := by
  induction k with
  | zero => intro a h h2; have := h.1; omega
  | succ k ih =>
    intro a h h2
    obtain ⟨w1, w2, w3⟩ := wsE_fin s a h
    have h0 := h.1
    unfold scS
    by_cases c0 : wsE s a = s.size
    · rw [if_pos c0]; simpa using h0
    rw [if_neg c0]
    obtain ⟨e, q1, q2, q3, q4, q5⟩ := one_fin s (wsE s a) (by omega) w3
    have hem : (oneV s (wsE s a)).2.1.toNat = e := by rw [q1]; simp
    by_cases c2 : (oneV s (wsE s a)).2.2 = 0
    · have q6 := q5 c2
      rw [if_pos c2, hem]
      have := ih e q4 (by omega)
      simp only [List.length_cons]; omega
    · rw [if_neg c2]; simpa using h0
theorem all_len (s : ByteArray) : (allV s).1.length ≤ s.size := sc_len s (s.size + 1) 0 (CB_zero s) (by omega)
end Go.Proofs.YtdphhmigbbgjmaaGreatDoor
end
