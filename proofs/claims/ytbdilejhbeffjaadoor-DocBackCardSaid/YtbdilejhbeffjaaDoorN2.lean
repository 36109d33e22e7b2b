/- What package doc checks, prints and reads, in plain Lean over the printed functions. What package doc prints is read, and what it reads is printed, in plain Lean. Reading a layout's text, in plain Lean: it comes to an answer; what is read is the text. -/
import Derived.Test.YtbdilejhbeffjaaDoorDocR
import Derived.Test.YtbdilejhbeffjaaDoorDocY
import Derived.Test.YtbdilejhbeffjaaDoorPDoc4
import Derived.Test.YtbdilejhbeffjaaDoorPDoc10
section
namespace Go.Proofs.YtbdilejhbeffjaaDoor
open Go.RowKit Go.Lib Go.Proofs.YtbdilejhbeffjaaDoorW.PrintWords
open PDoc
set_option linter.unusedVariables false
set_option linter.unusedSimpArgs false
theorem w64 {x : Int} (h1 : -9223372036854775808 ≤ x) (h2 : x ≤ 9223372036854775807) : wrap64 x = x := by unfold wrap64; omega
def rightD (d : S33) : Bool := rightB ⟨d.f0.toNat, d.f1, d.f2, d.f3, d.f4⟩
def depB (o : Nat) (k : Int) : Nat := if k = 6 then o + 1 else if k = 7 then o - 1 else o
/-- Whether pieces may be, so many open. -/
def chkGo : List S33 → Nat → Nat → Int × Int
  | [], o, i => if 0 < o then (70, (i : Int)) else (0, 0)
  | d :: r, o, i => if rightD d = true ∧ ¬ (d.f0 = 7 ∧ o = 0) then chkGo r (depB o d.f0) (i + 1) else (70, (i : Int))
theorem ff : ¬ (false = true) := by simp
theorem drop_get (L : List S33) (i : Nat) (d : S33) (r : List S33) (h : L.drop i = d :: r) : i < L.length ∧ L.getD i z33 = d ∧ L.drop (i + 1) = r := by
  have h1 : i < L.length := by
    rcases Nat.lt_or_ge i L.length with h2 | h2
    · exact h2
    · rw [List.drop_eq_nil_of_le h2] at h; cases h
  rw [List.drop_eq_getElem_cons h1] at h
  simp only [List.cons.injEq] at h
  exact ⟨h1, by rw [List.getD_eq_getElem?_getD, List.getElem?_eq_getElem h1]; exact h.1, h.2⟩
theorem chk_l0 (L : List S33) (hL : L.length ≤ 2097152) (hz : ∀ d ∈ L, 0 ≤ d.f0) (r : List S33) : ∀ (i o K : Nat), i ≤ L.length → L.drop i = r → o ≤ i → 2 * r.length < K → doc_Check.l0 K L (o : Int) L (L.length : Int) (i : Int) = some (chkGo r o i) := by
  induction r with
  | nil =>
    intro i o K h0 h1 h2 h3
    obtain ⟨K, rfl⟩ : ∃ m, K = m + 1 := ⟨K - 1, by omega⟩
    have hi : L.length ≤ i := List.drop_eq_nil_iff.1 h1
    rw [doc_Check.l0, if_neg (by omega)]
    unfold chkGo
    by_cases c : 0 < o
    · rw [if_pos (by omega), if_pos c, show i = L.length by omega]
    · rw [if_neg (by omega), if_neg c]
  | cons d r ih =>
    intro i o K h0 h1 h2 h3
    simp only [List.length_cons] at h3
    obtain ⟨K, rfl⟩ : ∃ m, K = m + 2 := ⟨K - 2, by omega⟩
    obtain ⟨g1, g2, g3⟩ := drop_get L i d r h1
    have hd : 0 ≤ d.f0 := hz d (by rw [← g2, List.getD_eq_getElem?_getD, List.getElem?_eq_getElem g1]; exact List.getElem_mem g1)
    have hrd : rd_T33 L (i : Int) = d := by unfold rd_T33; rw [Int.toNat_natCast]; exact g2
    have e1 : Hid (wrap64 ((o : Int) + 1) = ((o + 1 : Nat) : Int)) := Lib.hid (by rw [w64 (by omega) (by omega)]; omega)
    have e2 : Hid (wrap64 ((i : Int) + 1) = ((i + 1 : Nat) : Int)) := Lib.hid (by rw [w64 (by omega) (by omega)]; omega)
    have e3 : Hid (wrap64 ((o : Int) - 1) = (o : Int) - 1) := Lib.hid (by rw [w64 (by omega) (by omega)])
    have hr : doc_right.f d.f0 d.f1 d.f2 d.f3 d.f4 = some (rightD d) := by unfold doc_right.f rightF rightD; rw [if_pos hd]
    have hj : ∀ b : Bool, doc_Check.j1 (K + 1) L (o : Int) (i : Int) L (L.length : Int) (i : Int) b d.f0 d.f1 d.f2 d.f3 d.f4 = if b = true then some (70, (i : Int)) else if d.f0 = 6 then doc_Check.l0 K L ((o + 1 : Nat) : Int) L (L.length : Int) ((i + 1 : Nat) : Int) else if d.f0 = 7 then doc_Check.l0 K L ((o : Int) - 1) L (L.length : Int) ((i + 1 : Nat) : Int) else doc_Check.l0 K L (o : Int) L (L.length : Int) ((i + 1 : Nat) : Int) := fun b => by
      rw [doc_Check.j1, e1.out, e2.out, e3.out]
    rw [doc_Check.l0, if_pos (by omega), if_pos (by omega), if_pos (by omega), hrd, hr, Option.bind_some, hj, hj, hj]
    unfold chkGo depB
    by_cases c1 : rightD d = true
    · rw [if_pos c1]
      by_cases c6 : d.f0 = 6
      · rw [if_neg (by omega), if_neg ff, if_pos c6, ih (i + 1) (o + 1) K (by omega) g3 (by omega) (by omega), if_pos ⟨c1, by omega⟩, if_pos c6]
      · by_cases c7 : d.f0 = 7
        · rw [if_pos c7]
          by_cases c0 : o = 0
          · rw [if_pos (by simp [c0]), if_neg (by simp [c7, c0])]
          · rw [if_neg (by simp; omega), if_neg c6, if_pos c7, show (o : Int) - 1 = ((o - 1 : Nat) : Int) by omega, ih (i + 1) (o - 1) K (by omega) g3 (by omega) (by omega), if_pos ⟨c1, by omega⟩, if_neg c6, if_pos c7]
        · rw [if_neg c7, if_neg ff, if_neg c6, if_neg c7, ih (i + 1) o K (by omega) g3 (by omega) (by omega), if_pos ⟨c1, by omega⟩, if_neg c6, if_neg c7]
    · rw [if_neg c1, if_pos rfl, if_neg (fun h => c1 h.1)]
def chkV (l : List S33) : Int × Int := if 2097152 < l.length then (2, 0) else chkGo l 0 0
theorem check_f (l : List S33) (hz : ∀ d ∈ l, 0 ≤ d.f0) (K : Nat) (hK : 2 * l.length < K) : doc_Check.f K l = some (chkV l) := by
  unfold doc_Check.f chkV
  by_cases c : 2097152 < l.length
  · rw [if_pos (by omega), if_pos c]
  · rw [if_neg (by omega), if_neg c]
    exact chk_l0 l (by omega) hz l 0 0 K (by omega) rfl (by omega) hK
/-- What a right piece is. -/
structure Good (d : S33) : Prop where
  a : 0 ≤ d.f0
  r : rightD d = true
theorem good_ok {d : S33} (h : Good d) : 1 ≤ d.f0 ∧ d.f0 ≤ 7 ∧ okD d = true ∧
    (d.f0 = 1 → 1 ≤ d.f1.size ∧ d.f1.size ≤ 65535 ∧ d.f2 = 0 ∧ d.f3 = 0 ∧ d.f4 = false) ∧ (d.f0 = 3 → 0 ≤ d.f2 ∧ d.f2 ≤ 1000 ∧ d.f1 = ⟨#[]⟩ ∧ d.f3 = 0 ∧ d.f4 = false) ∧
    (d.f0 = 6 → 0 ≤ d.f3 ∧ d.f3 ≤ 1000 ∧ d.f1 = ⟨#[]⟩ ∧ d.f2 = 0) ∧ (d.f0 ≠ 1 → d.f0 ≠ 3 → d.f0 ≠ 6 → d.f1 = ⟨#[]⟩ ∧ d.f2 = 0 ∧ d.f3 = 0 ∧ d.f4 = false) := by
  obtain ⟨k0, t, n, i, e⟩ := d
  obtain ⟨h0, h1⟩ := h
  simp only at h0 h1 ⊢
  obtain ⟨k, rfl⟩ := Int.eq_ofNat_of_zero_le h0
  have z0 : (⟨#[]⟩ : ByteArray).size = 0 := rfl
  unfold rightD rightB at h1
  simp only [Int.toNat_natCast] at h1
  unfold okD
  simp only
  by_cases k1 : k = 1
  · subst k1
    simp only [if_pos] at h1
    simp at h1
    obtain ⟨⟨⟨⟨a, b⟩, c⟩, d⟩, e1, e2, e3⟩ := h1
    subst e1 e2 e3
    simp; omega
  · rw [if_neg k1] at h1
    by_cases k6 : k = 6
    · subst k6
      simp at h1
      obtain ⟨⟨a, b⟩, c, d⟩ := h1
      have this : t = ⟨#[]⟩ := d
      subst c this
      simp [z0]; omega
    · rw [if_neg k6] at h1
      by_cases k3 : k = 3
      · subst k3
        simp at h1
        obtain ⟨⟨a, b⟩, c, d, e1⟩ := h1
        have this : t = ⟨#[]⟩ := d
        subst c this e1
        simp [z0]; omega
      · rw [if_neg k3] at h1
        by_cases kk : k = 2 ∨ k = 4 ∨ k = 5 ∨ k = 7
        · rw [if_pos kk] at h1
          simp at h1
          obtain ⟨a, b, c, e1⟩ := h1
          have this : t = ⟨#[]⟩ := c
          subst a b this e1
          simp [z0]; omega
        · rw [if_neg kk] at h1; cases h1
theorem at_app {s : ByteArray} {P Q : List UInt8} (h : s.data.toList = P ++ Q) (j : Nat) (hj : j < Q.length) : P.length + j < s.size ∧ bt s ((P.length + j : Nat) : Int) = (((Q.getD j 0).toNat : Nat) : Int) := by
  have hz : s.size = P.length + Q.length := by rw [← size_len, h, List.length_append]
  refine ⟨by omega, ?_⟩
  unfold bt
  rw [dif_pos (by rw [Int.toNat_natCast]; omega)]
  congr 1
  have e1 : s.data.toList[P.length + j]? = Q[j]? := by rw [h, List.getElem?_append_right (by omega)]; congr 1; omega
  have e2 : s.data.toList[P.length + j]? = some (s[P.length + j]'(by omega)) := by
    rw [Array.getElem?_toList, Array.getElem?_eq_getElem (by show P.length + j < s.data.size; have : s.data.size = s.size := rfl; omega)]
    rfl
  simp only [Int.toNat_natCast]
  rw [e1] at e2
  rw [List.getD_eq_getElem?_getD, e2]; rfl
theorem hex_idx (p : Nat) (h : p < 16) : Lib.indexByte [48, 49, 50, 51, 52, 53, 54, 55, 56, 57, 97, 98, 99, 100, 101, 102] (((hexB p).toNat : Int).toNat.toUInt8) = (p : Int) :=
  (by decide +kernel : ∀ p : Fin 16, Lib.indexByte [48, 49, 50, 51, 52, 53, 54, 55, 56, 57, 97, 98, 99, 100, 101, 102] (((hexB p.val).toNat : Int).toNat.toUInt8) = (p.val : Int)) ⟨p, h⟩
theorem hex_or (p q : Nat) (hp : p < 16) (hq : q < 16) : (Go.bits .or .i64 (wrap64 ((p : Int) * 16)) (q : Int)) % 256 = ((16 * p + q : Nat) : Int) :=
  (by decide +kernel : ∀ p q : Fin 16, (Go.bits .or .i64 (wrap64 ((p.val : Int) * 16)) (q.val : Int)) % 256 = ((16 * p.val + q.val : Nat) : Int)) ⟨p, hp⟩ ⟨q, hq⟩
theorem un_l0 (s : ByteArray) (hs : s.size ≤ 1099511627776) (l : List UInt8) : ∀ (P : List UInt8) (acc : List Int) (K : Nat), s.data.toList = P ++ escL l → 3 * l.length < K → acc.length + l.length < 140737488355328 →
    doc_unescaped.l0 K s acc (P.length : Int) = some (strOfNums (acc ++ l.map fun c => ((c.toNat : Nat) : Int))) := by
  induction l with
  | nil =>
    intro P acc K h hK _
    obtain ⟨K, rfl⟩ : ∃ m, K = m + 1 := ⟨K - 1, by omega⟩
    have hz : s.size = P.length := by rw [← size_len, h]; simp [escL]
    rw [doc_unescaped.l0, if_neg (by omega)]
    simp
  | cons c r ih =>
    intro P acc K h hK hacc
    simp only [List.length_cons] at hK hacc
    obtain ⟨K, rfl⟩ : ∃ m, K = m + 3 := ⟨K - 3, by omega⟩
    have hE : escL (c :: r) = escB c ++ escL r := by simp [escL]
    rw [hE] at h
    have hsz : s.size = P.length + ((escB c).length + (escL r).length) := by rw [← size_len, h, List.length_append, List.length_append]
    have hPl : P.length < 1099511627776 + 1 := by omega
    have hcl : c.toNat < 256 := UInt8.toNat_lt _
    have hq : ∀ n : Nat, n ≤ 10 → Hid (wrap64 ((P.length : Int) + (n : Int)) = ((P.length + n : Nat) : Int)) := fun n hn => Lib.hid (by rw [w64 (by omega) (by omega)]; omega)
    have q1 := hq 1 (by omega)
    have nxt : ∀ (e : List UInt8), s.data.toList = P ++ (e ++ escL r) → ∀ acc', acc'.length ≤ acc.length + 1 → doc_unescaped.l0 K s acc' ((P.length + e.length : Nat) : Int) = some (strOfNums (acc' ++ r.map fun c => ((c.toNat : Nat) : Int))) := fun e he acc' ha => by
      have := ih (P ++ e) acc' K (by rw [he, List.append_assoc]) (by omega) (by omega)
      rw [List.length_append] at this; exact this
    have fin : ∀ x : Int, x = ((c.toNat : Nat) : Int) → acc ++ [x] ++ r.map (fun c => ((c.toNat : Nat) : Int)) = acc ++ (c :: r).map (fun c => ((c.toNat : Nat) : Int)) := fun x hx => by rw [hx]; simp
    by_cases c92 : c = 92
    · have ee : escB c = [92, 92] := by unfold escB; rw [if_pos c92]
      rw [ee] at h hsz
      simp only [List.length_cons, List.length_nil] at hsz
      obtain ⟨b0, e0⟩ := at_app h 0 (by simp)
      obtain ⟨b1, e1⟩ := at_app h 1 (by simp)
      have e0 : bt s (P.length : Int) = 92 := e0
      have e1 : bt s ((P.length + 1 : Nat) : Int) = 92 := e1
      have hn := nxt [92, 92] h (acc ++ [92]) (by simp)
      have q1' : wrap64 (((P.length + 1 : Nat) : Int) + 1) = ((P.length + 2 : Nat) : Int) := by rw [w64 (by omega) (by omega)]; omega
      replace q1' := Lib.hid q1'
      rw [show K + 3 = (K + 2) + 1 from rfl, doc_unescaped.l0, if_pos (by omega), if_pos (by omega), e0, if_pos rfl]
      rw [show K + 2 = (K + 1) + 1 from rfl, doc_unescaped.j1, show wrap64 ((P.length : Int) + 1) = ((P.length + 1 : Nat) : Int) from q1.out, if_neg (by simp; omega), if_pos (by omega), if_pos (by omega), e1, if_neg (by omega)]
      rw [doc_unescaped.j2, if_neg ff, if_pos (by omega), if_pos (by omega), if_pos (by omega), e1, q1'.out]
      rw [show ((P.length + ([92, 92] : List UInt8).length : Nat) : Int) = ((P.length + 2 : Nat) : Int) from rfl] at hn
      rw [hn, fin 92 (by rw [c92]; rfl)]
    · by_cases cp : 32 ≤ c ∧ c ≤ 126
      · have ee : escB c = [c] := by unfold escB; rw [if_neg c92, if_pos cp]
        rw [ee] at h hsz
        simp only [List.length_cons, List.length_nil] at hsz
        obtain ⟨b0, e0⟩ := at_app h 0 (by simp)
        have e0 : bt s (P.length : Int) = ((c.toNat : Nat) : Int) := e0
        have n92 : ¬ ((c.toNat : Nat) : Int) = 92 := fun e => c92 (UInt8.toNat_inj.1 (by show c.toNat = 92; omega))
        have hn := nxt [c] h (acc ++ [((c.toNat : Nat) : Int)]) (by simp)
        rw [show ((P.length + [c].length : Nat) : Int) = ((P.length + 1 : Nat) : Int) from rfl] at hn
        rw [show K + 3 = (K + 2) + 1 from rfl, doc_unescaped.l0, if_pos (by omega), if_pos (by omega), e0, if_neg n92]
        have up : doc_unescaped.l0 (K + 1) s (acc ++ [((c.toNat : Nat) : Int)]) ((P.length + 1 : Nat) : Int) = some (strOfNums (acc ++ [((c.toNat : Nat) : Int)] ++ r.map fun c => ((c.toNat : Nat) : Int))) := (doc_unescaped.mono_l K).1 _ _ _ _ hn
        rw [show K + 2 = (K + 1) + 1 from rfl, doc_unescaped.j1, if_pos rfl, if_pos (by omega), if_pos (by omega), if_pos (by omega), e0, show wrap64 ((P.length : Int) + 1) = ((P.length + 1 : Nat) : Int) from q1.out, up, fin _ rfl]
      · have ee : escB c = [92, 120, hexB (c.toNat / 16), hexB (c.toNat % 16)] := by unfold escB; rw [if_neg c92, if_neg cp]
        rw [ee] at h hsz
        simp only [List.length_cons, List.length_nil] at hsz
        obtain ⟨b0, e0⟩ := at_app h 0 (by simp)
        obtain ⟨b1, e1⟩ := at_app h 1 (by simp)
        obtain ⟨b2, e2⟩ := at_app h 2 (by simp)
        obtain ⟨b3, e3⟩ := at_app h 3 (by simp)
        have e0 : bt s (P.length : Int) = 92 := e0
        have e1 : bt s ((P.length + 1 : Nat) : Int) = 120 := e1
        have e2 : bt s ((P.length + 2 : Nat) : Int) = (((hexB (c.toNat / 16)).toNat : Nat) : Int) := e2
        have e3 : bt s ((P.length + 3 : Nat) : Int) = (((hexB (c.toNat % 16)).toNat : Nat) : Int) := e3
        have hn := nxt [92, 120, hexB (c.toNat / 16), hexB (c.toNat % 16)] h (acc ++ [((c.toNat : Nat) : Int)]) (by simp)
        rw [show ((P.length + [92, 120, hexB (c.toNat / 16), hexB (c.toNat % 16)].length : Nat) : Int) = ((P.length + 4 : Nat) : Int) from rfl] at hn
        have q2 : Hid (wrap64 (((P.length + 1 : Nat) : Int) + 1) = ((P.length + 2 : Nat) : Int)) := Lib.hid (by rw [w64 (by omega) (by omega)]; omega)
        have q3 : Hid (wrap64 (((P.length + 1 : Nat) : Int) + 2) = ((P.length + 3 : Nat) : Int)) := Lib.hid (by rw [w64 (by omega) (by omega)]; omega)
        have q4 : Hid (wrap64 (((P.length + 3 : Nat) : Int) + 1) = ((P.length + 4 : Nat) : Int)) := Lib.hid (by rw [w64 (by omega) (by omega)]; omega)
        rw [show K + 3 = (K + 2) + 1 from rfl, doc_unescaped.l0, if_pos (by omega), if_pos (by omega), e0, if_pos rfl]
        rw [show K + 2 = (K + 1) + 1 from rfl, doc_unescaped.j1, show wrap64 ((P.length : Int) + 1) = ((P.length + 1 : Nat) : Int) from q1.out, if_neg (by simp; omega), if_pos (by omega), if_pos (by omega), e1, if_pos rfl, q3.out]
        unfold doc_unescaped.j2
        rw [if_pos (by simp; omega), q2.out, q3.out, if_pos (by omega), if_pos (by omega), e2]
        unfold strings_IndexByte.f
        rw [Option.bind_some, if_pos (by omega), if_pos (by omega), e3, Option.bind_some, if_pos (by omega), q4.out]
        rw [show (⟨#[48, 49, 50, 51, 52, 53, 54, 55, 56, 57, 97, 98, 99, 100, 101, 102]⟩ : ByteArray).data.toList = [48, 49, 50, 51, 52, 53, 54, 55, 56, 57, 97, 98, 99, 100, 101, 102] from rfl, hex_idx _ (by omega), hex_idx _ (by omega), hex_or _ _ (by omega) (by omega), show 16 * (c.toNat / 16) + c.toNat % 16 = c.toNat by omega, hn, fin _ rfl]
theorem nums_str (t : ByteArray) : strOfNums (t.data.toList.map fun c => ((c.toNat : Nat) : Int)) = t := by
  have e : (strOfNums (t.data.toList.map fun c => ((c.toNat : Nat) : Int))).data.toList = t.data.toList := by
    rw [strOfNums_data, List.map_map]
    conv => rhs; rw [← List.map_id t.data.toList]
    apply List.map_congr_left
    intro c _
    simp
  cases hx : strOfNums (t.data.toList.map fun c => ((c.toNat : Nat) : Int)) with
  | mk d => cases t with | mk d2 => rw [hx] at e; simp at e; rw [e]
theorem escL_ge (l : List UInt8) : l.length ≤ (escL l).length := by
  induction l with
  | nil => simp [escL]
  | cons c r ih =>
    have h1 : 1 ≤ (escB c).length := by unfold escB; split; simp; split <;> simp
    have h2 : escL (c :: r) = escB c ++ escL r := by simp [escL]
    rw [h2, List.length_append, List.length_cons]; omega
theorem un_esc (t : ByteArray) (s : ByteArray) (hs : s.size ≤ 1099511627776) (h : s.data.toList = escL t.data.toList) (K : Nat) (hK : 3 * t.size < K) : doc_unescaped.f K s = some t := by
  have ht : t.size ≤ s.size := by
    have := escL_ge t.data.toList
    rw [← h, size_len, size_len] at this; exact this
  have := un_l0 s hs t.data.toList [] [] K (by rw [h]; rfl) (by rw [size_len]; exact hK) (by rw [size_len]; simp; omega)
  unfold doc_unescaped.f
  rw [List.nil_append, nums_str] at this
  exact this
end Go.Proofs.YtbdilejhbeffjaaDoor
end
section
namespace Go.Proofs.YtbdilejhbeffjaaDoor
open Go.RowKit Go.Lib Go.Proofs.YtbdilejhbeffjaaDoorW.PrintWords
open PDoc
set_option linter.unusedVariables false
set_option linter.unusedSimpArgs false
theorem ba_ext {x y : ByteArray} (h : x.data.toList = y.data.toList) : x = y := by
  cases x; cases y; simp at h; rw [h]
theorem cutL (s : ByteArray) (a b : Nat) : (cutS s a b).data.toList = (s.data.toList.drop a).take (b - a) := by unfold cutS; rw [extract_list]
theorem it_suf : ∀ n : Fin 1001, ∀ e : Bool, strings_CutSuffix.f ⟨(Lib.itoa (n.val : Int) ++ (if e = true then [32, 101, 118, 101, 110] else [])).toArray⟩ evenW = some (⟨(Lib.itoa (n.val : Int)).toArray⟩, e) := by decide +kernel
theorem it_ten : ∀ n : Fin 1001, (10 : UInt8) ∉ Lib.itoa (n.val : Int) := by decide +kernel
theorem esc_ten : ∀ c : Fin 256, (10 : UInt8) ∉ escB (UInt8.ofNat c.val) := by decide +kernel
theorem it_atoi : ∀ n : Fin 1001, atoiV (Lib.itoa (n.val : Int)) = (n.val : Int) := by decide +kernel
/-- A piece's line. -/
def LB (d : S33) : List UInt8 := lineB d.f0.toNat d.f1 d.f2 d.f3 d.f4
theorem lnB_LB (d : S33) : lnB d = LB d ++ [10] := rfl
theorem escL_ten (l : List UInt8) : (10 : UInt8) ∉ escL l := by
  unfold escL
  rw [List.mem_flatMap]
  rintro ⟨c, _, hc⟩
  have := esc_ten ⟨c.toNat, UInt8.toNat_lt c⟩
  simp at this
  exact this hc
theorem LB_ten (d : S33) (h : Good d) : (10 : UInt8) ∉ LB d ∧ 0 < (LB d).length := by
  obtain ⟨g1, g2, g3, g4, g5, g6, g7⟩ := good_ok h
  obtain ⟨k0, t, n, i, e⟩ := d
  simp only at g1 g2 g3 g4 g5 g6 g7
  obtain ⟨k, rfl⟩ := Int.eq_ofNat_of_zero_le (show 0 ≤ k0 by omega)
  unfold LB lineB
  simp only [Int.toNat_natCast]
  rcases (by omega : k = 1 ∨ k = 2 ∨ k = 3 ∨ k = 4 ∨ k = 5 ∨ k = 6 ∨ k = 7) with rfl | rfl | rfl | rfl | rfl | rfl | rfl
  · refine ⟨?_, by simp [wordB, wordsL]⟩
    rw [if_pos rfl, List.mem_append]
    rintro (h | h)
    · exact absurd h (by decide)
    · exact escL_ten _ h
  · exact ⟨by simp [wordB, wordsL], by simp [wordB, wordsL]⟩
  · obtain ⟨a, b, _⟩ := g5 rfl
    refine ⟨?_, by simp [wordB, wordsL]⟩
    rw [if_neg (by decide), if_pos rfl, List.mem_append]
    rintro (h | h)
    · exact absurd h (by decide)
    · have := it_ten ⟨n.toNat, by omega⟩
      rw [show ((⟨n.toNat, by omega⟩ : Fin 1001).val : Int) = n by simp; omega] at this
      exact this h
  · exact ⟨by simp [wordB, wordsL], by simp [wordB, wordsL]⟩
  · exact ⟨by simp [wordB, wordsL], by simp [wordB, wordsL]⟩
  · obtain ⟨a, b, _⟩ := g6 rfl
    refine ⟨?_, by simp [wordB, wordsL]⟩
    rw [if_neg (by decide), if_neg (by decide), if_pos rfl, List.mem_append, List.mem_append]
    rintro (h | h | h)
    · exact absurd h (by decide)
    · have := it_ten ⟨i.toNat, by omega⟩
      rw [show ((⟨i.toNat, by omega⟩ : Fin 1001).val : Int) = i by simp; omega] at this
      exact this h
    · cases e <;> simp at h
  · exact ⟨by simp [wordB, wordsL], by simp [wordB, wordsL]⟩
theorem read_line (d : S33) (h : Good d) (s : ByteArray) (hs : s.data.toList = LB d) (hz : s.size ≤ 4194304) : doc_read.f s = some (d.f0, d.f1, d.f2, d.f3, d.f4, true) := by
  have hgood := h
  obtain ⟨g1, g2, g3, g4, g5, g6, g7⟩ := good_ok h
  have hrt := h.r
  obtain ⟨k0, t, n, i, e⟩ := d
  simp only at g1 g2 g3 g4 g5 g6 g7
  obtain ⟨k, rfl⟩ := Int.eq_ofNat_of_zero_le (show 0 ≤ k0 by omega)
  unfold rightD at hrt
  unfold LB at hs
  simp only [Int.toNat_natCast] at hrt hs
  have fin : ∀ (t' : ByteArray) (n' i' : Int) (e' : Bool), t' = t → n' = n → i' = i → e' = e → t.size ≤ 65535 → readEnd s k t' n' i' e' = some ((k : Int), t, n, i, e, true) := fun t' n' i' e' h1 h2 h3 h4 h5 => by
    subst h1 h2 h3 h4
    unfold readEnd
    rw [if_pos (by omega), hrt, hs]; simp
  have z0 : (⟨#[]⟩ : ByteArray).size = 0 := rfl
  unfold doc_read.f
  rw [if_pos (by omega)]
  rcases (by omega : k = 1 ∨ k = 2 ∨ k = 3 ∨ k = 4 ∨ k = 5 ∨ k = 6 ∨ k = 7) with rfl | rfl | rfl | rfl | rfl | rfl | rfl
  · obtain ⟨a, b, rfl, rfl, rfl⟩ := g4 rfl
    have hk : readK s.data.toList = 1 := by rw [hs]; simp [lineB, readK, Lib.hasPrefix, wordB, wordsL, List.isPrefixOf]
    have hc : (cutS s 5 s.size).data.toList = escL t.data.toList := by
      rw [cutL, List.take_of_length_le (by rw [List.length_drop, size_len]; exact Nat.le_refl _), hs]; simp [lineB, wordB, wordsL]
    have hle : (cutS s 5 s.size).size ≤ s.size := cut_le _ _ _
    have ht : t.size ≤ (cutS s 5 s.size).size := by
      have := escL_ge t.data.toList
      rw [← hc, size_len, size_len] at this; exact this
    rw [hk]
    show (doc_unescaped.f (4 * s.size + 50) (cutS s 5 s.size)).bind _ = _
    rw [un_esc t _ (by omega) hc _ (by omega), Option.bind_some]
    exact fin t 0 0 false rfl rfl rfl rfl b
  · obtain ⟨rfl, rfl, rfl, rfl⟩ := g7 (by decide) (by decide) (by decide)
    have hk : readK s.data.toList = 2 := by rw [hs]; simp [lineB, readK, Lib.hasPrefix, wordB, wordsL, List.isPrefixOf]
    rw [hk]
    exact fin _ 0 0 false rfl rfl rfl rfl (by omega)
  · obtain ⟨a, b, rfl, rfl, rfl⟩ := g5 rfl
    have hk : readK s.data.toList = 3 := by rw [hs]; simp [lineB, readK, Lib.hasPrefix, wordB, wordsL, List.isPrefixOf]
    have hc : (cutS s 6 s.size).data.toList = Lib.itoa n := by
      rw [cutL, List.take_of_length_le (by rw [List.length_drop, size_len]; exact Nat.le_refl _), hs]; simp [lineB, wordB, wordsL]
    have ha : atoiV (Lib.itoa n) = n := by
      have := it_atoi ⟨n.toNat, by omega⟩
      rw [show ((⟨n.toNat, by omega⟩ : Fin 1001).val : Int) = n by simp; omega] at this
      exact this
    rw [hk]
    show readEnd s 3 ⟨#[]⟩ (atoiV (cutS s 6 s.size).data.toList) 0 false = _
    rw [hc, ha]
    exact fin _ n 0 false rfl rfl rfl rfl (by omega)
  · obtain ⟨rfl, rfl, rfl, rfl⟩ := g7 (by decide) (by decide) (by decide)
    have hk : readK s.data.toList = 4 := by rw [hs]; simp [lineB, readK, Lib.hasPrefix, wordB, wordsL, List.isPrefixOf]
    rw [hk]
    exact fin _ 0 0 false rfl rfl rfl rfl (by omega)
  · obtain ⟨rfl, rfl, rfl, rfl⟩ := g7 (by decide) (by decide) (by decide)
    have hk : readK s.data.toList = 5 := by rw [hs]; simp [lineB, readK, Lib.hasPrefix, wordB, wordsL, List.isPrefixOf]
    rw [hk]
    exact fin _ 0 0 false rfl rfl rfl rfl (by omega)
  · obtain ⟨a, b, rfl, rfl⟩ := g6 rfl
    have hk : readK s.data.toList = 6 := by rw [hs]; simp [lineB, readK, Lib.hasPrefix, wordB, wordsL, List.isPrefixOf]
    have hc : cutS s 6 s.size = ⟨(Lib.itoa i ++ (if e = true then [32, 101, 118, 101, 110] else [])).toArray⟩ := by
      apply ba_ext
      rw [cutL, List.take_of_length_le (by rw [List.length_drop, size_len]; exact Nat.le_refl _), hs]; simp [lineB, wordB, wordsL]
    have ha : atoiV (Lib.itoa i) = i := by
      have := it_atoi ⟨i.toNat, by omega⟩
      rw [show ((⟨i.toNat, by omega⟩ : Fin 1001).val : Int) = i by simp; omega] at this
      exact this
    have hu : strings_CutSuffix.f ⟨(Lib.itoa i ++ (if e = true then [32, 101, 118, 101, 110] else [])).toArray⟩ evenW = some (⟨(Lib.itoa i).toArray⟩, e) := by
      have := it_suf ⟨i.toNat, by omega⟩ e
      rw [show ((⟨i.toNat, by omega⟩ : Fin 1001).val : Int) = i by simp; omega] at this
      exact this
    rw [hk]
    show (strings_CutSuffix.f (cutS s 6 s.size) evenW).bind (fun r => readEnd s 6 ⟨#[]⟩ 0 (atoiV r.1.data.toList) r.2) = _
    rw [hc, hu, Option.bind_some]
    show readEnd s 6 ⟨#[]⟩ 0 (atoiV (Lib.itoa i)) e = _
    rw [ha]
    exact fin _ 0 i e rfl rfl rfl rfl (by omega)
  · obtain ⟨rfl, rfl, rfl, rfl⟩ := g7 (by decide) (by decide) (by decide)
    have hk : readK s.data.toList = 7 := by rw [hs]; simp [lineB, readK, Lib.hasPrefix, wordB, wordsL, List.isPrefixOf]
    rw [hk]
    exact fin _ 0 0 false rfl rfl rfl rfl (by omega)
end Go.Proofs.YtbdilejhbeffjaaDoor
end
section
namespace Go.Proofs.YtbdilejhbeffjaaDoor
open Go.RowKit Go.Lib Go.Proofs.YtbdilejhbeffjaaDoorW.PrintWords
open PDoc
set_option linter.unusedVariables false
set_option linter.unusedSimpArgs false
/-- Unescaping comes to an answer. -/
theorem un_tot (s : ByteArray) (hs : s.size ≤ 4194304) (d : Nat) : ∀ (i K : Nat) (acc : List Int), s.size ≤ i + d → i ≤ s.size → acc.length ≤ i → 3 * d < K → ∃ t, doc_unescaped.l0 K s acc (i : Int) = some t ∧ t.size ≤ s.size := by
  induction d using Nat.strongRecOn with
  | ind d ih =>
    intro i K acc h1 h2 h3 hK
    by_cases c : i = s.size
    · obtain ⟨K, rfl⟩ : ∃ m, K = m + 1 := ⟨K - 1, by omega⟩
      rw [doc_unescaped.l0, if_neg (by omega)]
      exact ⟨_, rfl, by rw [strOfNums_size]; omega⟩
    · obtain ⟨K, rfl⟩ : ∃ m, K = m + 3 := ⟨K - 3, by omega⟩
      have q : ∀ n : Nat, n ≤ 10 → Hid (wrap64 ((i : Int) + (n : Int)) = ((i + n : Nat) : Int)) := fun n hn => Lib.hid (by rw [w64 (by omega) (by omega)]; omega)
      have q1 := q 1 (by omega)
      have q2 : Hid (wrap64 (((i + 1 : Nat) : Int) + 1) = ((i + 2 : Nat) : Int)) := Lib.hid (by rw [w64 (by omega) (by omega)]; omega)
      have q3 : Hid (wrap64 (((i + 1 : Nat) : Int) + 2) = ((i + 3 : Nat) : Int)) := Lib.hid (by rw [w64 (by omega) (by omega)]; omega)
      have q4 : Hid (wrap64 (((i + 3 : Nat) : Int) + 1) = ((i + 4 : Nat) : Int)) := Lib.hid (by rw [w64 (by omega) (by omega)]; omega)
      -- one byte as it stands
      have one : ∃ t, doc_unescaped.j1 (K + 2) s acc (i : Int) true = some t ∧ t.size ≤ s.size := by
        obtain ⟨t, ht, htz⟩ := ih (d - 1) (by omega) (i + 1) (K + 1) (acc ++ [bt s (i : Int)]) (by omega) (by omega) (by simp; omega) (by omega)
        refine ⟨t, ?_, htz⟩
        rw [show K + 2 = (K + 1) + 1 from rfl, doc_unescaped.j1, if_pos rfl, if_pos (by omega), if_pos (by omega), if_pos (by omega), show wrap64 ((i : Int) + 1) = ((i + 1 : Nat) : Int) from q1.out]
        exact ht
      rw [show K + 3 = (K + 2) + 1 from rfl, doc_unescaped.l0, if_pos (by omega), if_pos (by omega)]
      by_cases c92 : bt s (i : Int) = 92
      · rw [if_pos c92, show wrap64 ((i : Int) + 1) = ((i + 1 : Nat) : Int) from q1.out]
        by_cases ce : i + 1 = s.size
        · rw [show (((i + 1 : Nat) : Int) == (s.size : Int)) = true by rw [ce]; simp]
          exact one
        · rw [show (((i + 1 : Nat) : Int) == (s.size : Int)) = false by simp; omega]
          have two : ∃ t, doc_unescaped.j2 (K + 1) s acc ((i + 1 : Nat) : Int) false = some t ∧ t.size ≤ s.size := by
            obtain ⟨t, ht, htz⟩ := ih (d - 2) (by omega) (i + 2) K (acc ++ [bt s ((i + 1 : Nat) : Int)]) (by omega) (by omega) (by simp; omega) (by omega)
            refine ⟨t, ?_, htz⟩
            rw [doc_unescaped.j2, if_neg ff, if_pos (by omega), if_pos (by omega), if_pos (by omega), q2.out]
            exact ht
          rw [show K + 2 = (K + 1) + 1 from rfl, doc_unescaped.j1, if_neg ff, show wrap64 ((i : Int) + 1) = ((i + 1 : Nat) : Int) from q1.out, if_pos (by omega), if_pos (by omega), q3.out]
          by_cases cx : bt s ((i + 1 : Nat) : Int) = 120
          · rw [if_pos cx]
            by_cases cl : i + 3 < s.size
            · rw [show decide (((i + 3 : Nat) : Int) < (s.size : Int)) = true by simp; omega]
              rw [doc_unescaped.j2, if_pos rfl, q2.out, q3.out, if_pos (by omega), if_pos (by omega)]
              unfold strings_IndexByte.f
              rw [Option.bind_some, if_pos (by omega), if_pos (by omega), Option.bind_some, if_pos (by omega), q4.out]
              exact ih (d - 4) (by omega) (i + 4) K _ (by omega) (by omega) (by simp; omega) (by omega)
            · rw [show decide (((i + 3 : Nat) : Int) < (s.size : Int)) = false by simp; omega]
              exact two
          · rw [if_neg cx]
            exact two
      · rw [if_neg c92]
        exact one
theorem cutSuf_tot (s p : ByteArray) (hs : s.size ≤ 4194304) (hp : p.size ≤ 100) : ∃ r, strings_CutSuffix.f s p = some r := by
  have e1 : (p.size : Int) ≤ (s.size : Int) → wrap64 ((s.size : Int) - (p.size : Int)) = ((s.size - p.size : Nat) : Int) := fun h => by rw [w64 (by omega) (by omega)]; omega
  unfold strings_CutSuffix.f stringslite_CutSuffix.f stringslite_HasSuffix.f
  by_cases c : (s.size : Int) ≥ (p.size : Int)
  · rw [if_pos c, e1 c, if_pos (by omega), if_pos (by omega), Option.bind_some]
    split
    · rw [if_pos (by omega), if_pos (by omega)]; exact ⟨_, rfl⟩
    · exact ⟨_, rfl⟩
  · rw [if_neg c, Option.bind_some, if_neg ff]; exact ⟨_, rfl⟩
/-- A line is read, as a piece or as none; of a piece it is the line. -/
theorem read_tot (s : ByteArray) (hs : s.size ≤ 4194304) : ∃ k t n i e ok, doc_read.f s = some (k, t, n, i, e, ok) ∧ (ok = true → Good ⟨k, t, n, i, e⟩ ∧ LB ⟨k, t, n, i, e⟩ = s.data.toList) := by
  have hle : ∀ a, (cutS s a s.size).size ≤ s.size := fun a => cut_le _ _ _
  have fin : ∀ (k : Nat) (t : ByteArray) (n i : Int) (e : Bool), t.size ≤ s.size → ∃ k' t' n' i' e' ok, readEnd s k t n i e = some (k', t', n', i', e', ok) ∧ (ok = true → Good ⟨k', t', n', i', e'⟩ ∧ LB ⟨k', t', n', i', e'⟩ = s.data.toList) := fun k t n i e ht => by
    unfold readEnd
    rw [if_pos (by omega)]
    refine ⟨_, _, _, _, _, _, rfl, fun hok => ?_⟩
    rw [Bool.and_eq_true, decide_eq_true_eq] at hok
    exact ⟨⟨by show (0 : Int) ≤ (k : Int); omega, by unfold rightD; simpa using hok.1⟩, by unfold LB; simpa using hok.2⟩
  have z0 : (⟨#[]⟩ : ByteArray).size = 0 := rfl
  unfold doc_read.f
  rw [if_pos (by omega)]
  split
  · exact ⟨_, _, _, _, _, _, rfl, fun h => by cases h⟩
  · obtain ⟨t, ht, htz⟩ := un_tot (cutS s 5 s.size) (Nat.le_trans (hle 5) hs) (cutS s 5 s.size).size 0 (4 * s.size + 50) [] (by omega) (by omega) (by simp) (by have := hle 5; omega)
    unfold doc_unescaped.f
    rw [show ((0 : Int)) = ((0 : Nat) : Int) from rfl, ht, Option.bind_some]
    exact fin 1 t 0 0 false (Nat.le_trans htz (hle 5))
  · exact fin 3 _ _ _ _ (by omega)
  · obtain ⟨r, hr⟩ := cutSuf_tot (cutS s 6 s.size) evenW (Nat.le_trans (hle 6) hs) (by decide)
    rw [hr, Option.bind_some]
    exact fin 6 _ _ _ _ (by omega)
  · exact fin _ _ _ _ _ (by omega)
theorem idx_ten (a b : List UInt8) (h : (10 : UInt8) ∉ a) : Lib.indexByte (a ++ 10 :: b) 10 = (a.length : Int) := by
  induction a with
  | nil => simp [Lib.indexByte]
  | cons c r ih =>
    simp only [List.mem_cons, not_or] at h
    have := ih h.2
    simp only [List.cons_append, Lib.indexByte]
    rw [if_neg (by simpa using fun e => h.1 e.symm), this]
    simp
theorem idx_none (a : List UInt8) (h : (10 : UInt8) ∉ a) : Lib.indexByte a 10 = -1 := by
  induction a with
  | nil => rfl
  | cons c r ih =>
    simp only [List.mem_cons, not_or] at h
    simp only [Lib.indexByte]
    rw [if_neg (by simpa using fun e => h.1 e.symm), ih h.2]
    rfl
theorem cut_ten (s : ByteArray) (hs : s.size ≤ 4194304) (a b : List UInt8) (h : s.data.toList = a ++ 10 :: b) (ha : (10 : UInt8) ∉ a) : ∃ x y, strings_Cut.f s ⟨#[10]⟩ = some (x, y, true) ∧ x.data.toList = a ∧ y.data.toList = b ∧ x.size ≤ s.size ∧ y.size < s.size := by
  have hz : s.size = a.length + (b.length + 1) := by rw [← size_len, h]; simp
  unfold strings_Cut.f
  rw [if_pos ⟨rfl, by omega⟩, h, idx_ten a b ha, if_pos (by omega), Int.toNat_natCast]
  have e1 : (cutS s 0 a.length).data.toList = a := by rw [cutL, h]; simp
  have e2 : (cutS s (a.length + 1) s.size).data.toList = b := by rw [cutL, List.take_of_length_le (by rw [List.length_drop, size_len]; exact Nat.le_refl _), h]; simp
  exact ⟨_, _, rfl, e1, e2, by rw [← size_len, e1]; omega, by rw [← size_len, e2]; omega⟩
theorem cut_none (s : ByteArray) (hs : s.size ≤ 4194304) (h : (10 : UInt8) ∉ s.data.toList) : strings_Cut.f s ⟨#[10]⟩ = some (s, ⟨#[]⟩, false) := by
  unfold strings_Cut.f
  rw [if_pos ⟨rfl, by omega⟩, idx_none _ h, if_neg (by omega)]
theorem split_ten (l : List UInt8) : (10 : UInt8) ∉ l ∨ ∃ a b, l = a ++ 10 :: b ∧ (10 : UInt8) ∉ a := by
  induction l with
  | nil => exact .inl (by simp)
  | cons c r ih =>
    by_cases hc : c = 10
    · exact .inr ⟨[], r, by rw [hc]; rfl, by simp⟩
    · rcases ih with h | ⟨a, b, h1, h2⟩
      · exact .inl (by simp only [List.mem_cons, not_or]; exact ⟨fun e => hc e.symm, h⟩)
      · exact .inr ⟨c :: a, b, by rw [h1]; rfl, by simp only [List.mem_cons, not_or]; exact ⟨fun e => hc e.symm, h2⟩⟩
/-- Parsing comes to an answer; a layout that is read has the text, and may be. -/
theorem parse_tot (n : Nat) : ∀ (s : ByteArray) (acc : List S33) (K : Nat), s.size ≤ n → s.size + acc.length ≤ 4194304 → (∀ d ∈ acc, Good d) → 3 * s.size + 2 * acc.length + 5 < K →
    ∃ L e m, doc_Parse.l0 K s acc = some (L, e, m) ∧ (e ≠ 0 → L = []) ∧ (e = 0 → ∃ R, L = acc ++ R ∧ (∀ d ∈ L, Good d) ∧ linesB R = s.data.toList ∧ (chkV L).1 = 0) := by
  induction n with
  | zero =>
    intro s acc K h1 h2 h3 hK
    obtain ⟨K, rfl⟩ : ∃ m, K = m + 1 := ⟨K - 1, by omega⟩
    have hnil : s.data.toList = [] := List.length_eq_zero_iff.1 (by rw [size_len]; omega)
    have hn2 : s.toList = ([] : List UInt8) := by rw [Lib.toList_data]; exact hnil
    rw [doc_Parse.l0, if_pos hn2, check_f acc (fun d hd => (h3 d hd).a) K (by omega), Option.bind_some]
    by_cases c : (chkV acc).1 = 0
    · rw [if_pos c]
      exact ⟨_, _, _, rfl, fun h => absurd rfl h, fun _ => ⟨[], by simp, h3, by rw [hnil]; rfl, c⟩⟩
    · rw [if_neg c]
      exact ⟨_, _, _, rfl, fun _ => rfl, fun h => absurd h c⟩
  | succ n ih =>
    intro s acc K h1 h2 h3 hK
    obtain ⟨K, rfl⟩ : ∃ m, K = m + 1 := ⟨K - 1, by omega⟩
    by_cases hnil : s.data.toList = []
    · have hz : s.size = 0 := by rw [← size_len, hnil]; rfl
      exact ih s acc (K + 1) (by omega) h2 h3 hK
    have hn2 : ¬ s.toList = ([] : List UInt8) := by rw [Lib.toList_data]; exact hnil
    rw [doc_Parse.l0, if_neg hn2]
    rcases split_ten s.data.toList with hno | ⟨a, b, hab, ha⟩
    · rw [cut_none s (by omega) hno, Option.bind_some]
      obtain ⟨k, t, m, i, e, ok, hr, _⟩ := read_tot s (by omega)
      rw [hr, Option.bind_some]
      simp only
      cases ok with
      | true => rw [if_pos rfl, if_neg ff]; exact ⟨_, _, _, rfl, fun _ => rfl, fun h => absurd h (by decide)⟩
      | false => rw [if_neg ff]; exact ⟨_, _, _, rfl, fun _ => rfl, fun h => absurd h (by decide)⟩
    · obtain ⟨x, y, hc, hx, hy, hxz, hyz⟩ := cut_ten s (by omega) a b hab ha
      rw [hc, Option.bind_some]
      simp only
      obtain ⟨k, t, m, i, e, ok, hr, hgood⟩ := read_tot x (by omega)
      rw [hr, Option.bind_some]
      simp only
      cases ok with
      | false => rw [if_neg ff]; exact ⟨_, _, _, rfl, fun _ => rfl, fun h => absurd h (by decide)⟩
      | true =>
        obtain ⟨hg, hl⟩ := hgood rfl
        rw [if_pos rfl, if_pos trivial, if_pos (by omega)]
        obtain ⟨L, e', m', hp, hq1, hq2⟩ := ih y (acc ++ [⟨k, t, m, i, e⟩]) K (by omega) (by simp; omega) (fun d hd => by
          rcases List.mem_append.1 hd with hd | hd
          · exact h3 d hd
          · simp only [List.mem_singleton] at hd; rw [hd]; exact hg) (by simp; omega)
        refine ⟨L, e', m', hp, hq1, fun h0 => ?_⟩
        obtain ⟨R, r1, r2, r3, r4⟩ := hq2 h0
        refine ⟨⟨k, t, m, i, e⟩ :: R, by rw [r1]; simp, r2, ?_, r4⟩
        rw [hab, ← hy, ← r3, ← hx, ← hl]
        unfold linesB
        rw [List.flatMap_cons, lnB_LB]
        simp
theorem linesB_ge (L : List S33) : L.length ≤ (linesB L).length := by
  induction L with
  | nil => simp [linesB]
  | cons d r ih =>
    unfold linesB at *
    rw [List.flatMap_cons, List.length_append, lnB_LB, List.length_append, List.length_singleton, List.length_cons]; omega
theorem awake7_f : colophonlaw07_awake.f 200 = some true := by decide +kernel
theorem awake7_at {k : Nat} (h : 200 ≤ k) : colophonlaw07_awake.f k = some true := at_rounds (g := fun k => colophonlaw07_awake.f k) (fun k => colophonlaw07_awake.mono k) h awake7_f
end Go.Proofs.YtbdilejhbeffjaaDoor
end
