/- What package doc checks, prints and reads, in plain Lean over the printed functions. -/
import Derived.Test.YtbdilejhbeffjaaDoorDocR
import Derived.Test.YtbdilejhbeffjaaDoorDocY
namespace Go.Proofs.YtbdilejhbeffjaaDoor
open Go.RowKit Go.Lib Go.Proofs.YtbdilejhbeffjaaDoorW.PrintWords
open PDoc
set_option linter.unusedVariables false
set_option linter.unusedSimpArgs false
theorem w64 {x : Int} (h1 : -9223372036854775808 ≤ x) (h2 : x ≤ 9223372036854775807) : wrap64 x = x := by unfold wrap64; omega
def rightD (d : S33) : Bool := rightB ⟨d.f0.toNat, d.f1, d.f2, d.f3, d.f4⟩
def depB (o : Nat) (k : Int) : Nat := if k = 6 then o + 1 else if k = 7 then o - 1 else o
/-- Whether pieces may be, so many open. -/
def chkGo : List S33 → Nat → Nat → Int × Int
  | [], o, i => if 0 < o then (70, (i : Int)) else (0, 0)
  | d :: r, o, i => if rightD d = true ∧ ¬ (d.f0 = 7 ∧ o = 0) then chkGo r (depB o d.f0) (i + 1) else (70, (i : Int))
theorem ff : ¬ (false = true) := by simp
theorem drop_get (L : List S33) (i : Nat) (d : S33) (r : List S33) (h : L.drop i = d :: r) : i < L.length ∧ L.getD i z33 = d ∧ L.drop (i + 1) = r := by
  have h1 : i < L.length := by
    rcases Nat.lt_or_ge i L.length with h2 | h2
    · exact h2
    · rw [List.drop_eq_nil_of_le h2] at h; cases h
  rw [List.drop_eq_getElem_cons h1] at h
  simp only [List.cons.injEq] at h
  exact ⟨h1, by rw [List.getD_eq_getElem?_getD, List.getElem?_eq_getElem h1]; exact h.1, h.2⟩
theorem chk_l0 (L : List S33) (hL : L.length ≤ 2097152) (hz : ∀ d ∈ L, 0 ≤ d.f0) (r : List S33) : ∀ (i o K : Nat), i ≤ L.length → L.drop i = r → o ≤ i → 2 * r.length < K → doc_Check.l0 K L (o : Int) L (L.length : Int) (i : Int) = some (chkGo r o i) := by
  induction r with
  | nil =>
    intro i o K h0 h1 h2 h3
    obtain ⟨K, rfl⟩ : ∃ m, K = m + 1 := ⟨K - 1, by omega⟩
    have hi : L.length ≤ i := List.drop_eq_nil_iff.1 h1
    rw [doc_Check.l0, if_neg (by omega)]
    unfold chkGo
    by_cases c : 0 < o
    · rw [if_pos (by omega), if_pos c, show i = L.length by omega]
    · rw [if_neg (by omega), if_neg c]
  | cons d r ih =>
    intro i o K h0 h1 h2 h3
    simp only [List.length_cons] at h3
    obtain ⟨K, rfl⟩ : ∃ m, K = m + 2 := ⟨K - 2, by omega⟩
    obtain ⟨g1, g2, g3⟩ := drop_get L i d r h1
    have hd : 0 ≤ d.f0 := hz d (by rw [← g2, List.getD_eq_getElem?_getD, List.getElem?_eq_getElem g1]; exact List.getElem_mem g1)
    have hrd : rd_T33 L (i : Int) = d := by unfold rd_T33; rw [Int.toNat_natCast]; exact g2
    have e1 : Hid (wrap64 ((o : Int) + 1) = ((o + 1 : Nat) : Int)) := Lib.hid (by rw [w64 (by omega) (by omega)]; omega)
    have e2 : Hid (wrap64 ((i : Int) + 1) = ((i + 1 : Nat) : Int)) := Lib.hid (by rw [w64 (by omega) (by omega)]; omega)
    have e3 : Hid (wrap64 ((o : Int) - 1) = (o : Int) - 1) := Lib.hid (by rw [w64 (by omega) (by omega)])
    have hr : doc_right.f d.f0 d.f1 d.f2 d.f3 d.f4 = some (rightD d) := by unfold doc_right.f rightF rightD; rw [if_pos hd]
    have hj : ∀ b : Bool, doc_Check.j1 (K + 1) L (o : Int) (i : Int) L (L.length : Int) (i : Int) b d.f0 d.f1 d.f2 d.f3 d.f4 = if b = true then some (70, (i : Int)) else if d.f0 = 6 then doc_Check.l0 K L ((o + 1 : Nat) : Int) L (L.length : Int) ((i + 1 : Nat) : Int) else if d.f0 = 7 then doc_Check.l0 K L ((o : Int) - 1) L (L.length : Int) ((i + 1 : Nat) : Int) else doc_Check.l0 K L (o : Int) L (L.length : Int) ((i + 1 : Nat) : Int) := fun b => by
      rw [doc_Check.j1, e1.out, e2.out, e3.out]
    rw [doc_Check.l0, if_pos (by omega), if_pos (by omega), if_pos (by omega), hrd, hr, Option.bind_some, hj, hj, hj]
    unfold chkGo depB
    by_cases c1 : rightD d = true
    · rw [if_pos c1]
      by_cases c6 : d.f0 = 6
      · rw [if_neg (by omega), if_neg ff, if_pos c6, ih (i + 1) (o + 1) K (by omega) g3 (by omega) (by omega), if_pos ⟨c1, by omega⟩, if_pos c6]
      · by_cases c7 : d.f0 = 7
        · rw [if_pos c7]
          by_cases c0 : o = 0
          · rw [if_pos (by simp [c0]), if_neg (by simp [c7, c0])]
          · rw [if_neg (by simp; omega), if_neg c6, if_pos c7, show (o : Int) - 1 = ((o - 1 : Nat) : Int) by omega, ih (i + 1) (o - 1) K (by omega) g3 (by omega) (by omega), if_pos ⟨c1, by omega⟩, if_neg c6, if_pos c7]
        · rw [if_neg c7, if_neg ff, if_neg c6, if_neg c7, ih (i + 1) o K (by omega) g3 (by omega) (by omega), if_pos ⟨c1, by omega⟩, if_neg c6, if_neg c7]
    · rw [if_neg c1, if_pos rfl, if_neg (fun h => c1 h.1)]
def chkV (l : List S33) : Int × Int := if 2097152 < l.length then (2, 0) else chkGo l 0 0
theorem check_f (l : List S33) (hz : ∀ d ∈ l, 0 ≤ d.f0) (K : Nat) (hK : 2 * l.length < K) : doc_Check.f K l = some (chkV l) := by
  unfold doc_Check.f chkV
  by_cases c : 2097152 < l.length
  · rw [if_pos (by omega), if_pos c]
  · rw [if_neg (by omega), if_neg c]
    exact chk_l0 l (by omega) hz l 0 0 K (by omega) rfl (by omega) hK
/-- What a right piece is. -/
structure Good (d : S33) : Prop where
  a : 0 ≤ d.f0
  r : rightD d = true
theorem good_ok {d : S33} (h : Good d) : 1 ≤ d.f0 ∧ d.f0 ≤ 7 ∧ okD d = true ∧
    (d.f0 = 1 → 1 ≤ d.f1.size ∧ d.f1.size ≤ 65535 ∧ d.f2 = 0 ∧ d.f3 = 0 ∧ d.f4 = false) ∧ (d.f0 = 3 → 0 ≤ d.f2 ∧ d.f2 ≤ 1000 ∧ d.f1 = ⟨#[]⟩ ∧ d.f3 = 0 ∧ d.f4 = false) ∧
    (d.f0 = 6 → 0 ≤ d.f3 ∧ d.f3 ≤ 1000 ∧ d.f1 = ⟨#[]⟩ ∧ d.f2 = 0) ∧ (d.f0 ≠ 1 → d.f0 ≠ 3 → d.f0 ≠ 6 → d.f1 = ⟨#[]⟩ ∧ d.f2 = 0 ∧ d.f3 = 0 ∧ d.f4 = false) := by
  obtain ⟨k0, t, n, i, e⟩ := d
  obtain ⟨h0, h1⟩ := h
  simp only at h0 h1 ⊢
  obtain ⟨k, rfl⟩ := Int.eq_ofNat_of_zero_le h0
  have z0 : (⟨#[]⟩ : ByteArray).size = 0 := rfl
  unfold rightD rightB at h1
  simp only [Int.toNat_natCast] at h1
  unfold okD
  simp only
  by_cases k1 : k = 1
  · subst k1
    simp only [if_pos] at h1
    simp at h1
    obtain ⟨⟨⟨⟨a, b⟩, c⟩, d⟩, e1, e2, e3⟩ := h1
    subst e1 e2 e3
    simp; omega
  · rw [if_neg k1] at h1
    by_cases k6 : k = 6
    · subst k6
      simp at h1
      obtain ⟨⟨a, b⟩, c, d⟩ := h1
      have this : t = ⟨#[]⟩ := d
      subst c this
      simp [z0]; omega
    · rw [if_neg k6] at h1
      by_cases k3 : k = 3
      · subst k3
        simp at h1
        obtain ⟨⟨a, b⟩, c, d, e1⟩ := h1
        have this : t = ⟨#[]⟩ := d
        subst c this e1
        simp [z0]; omega
      · rw [if_neg k3] at h1
        by_cases kk : k = 2 ∨ k = 4 ∨ k = 5 ∨ k = 7
        · rw [if_pos kk] at h1
          simp at h1
          obtain ⟨a, b, c, e1⟩ := h1
          have this : t = ⟨#[]⟩ := c
          subst a b this e1
          simp [z0]; omega
        · rw [if_neg kk] at h1; cases h1
theorem chkGo_good (l : List S33) : ∀ o i, (∀ d ∈ l, 0 ≤ d.f0) → (chkGo l o i).1 = 0 → ∀ d ∈ l, Good d := by
  induction l with
  | nil => intro o i _ _ d hd; cases hd
  | cons x r ih =>
    intro o i hz h d hd
    unfold chkGo at h
    by_cases c : rightD x = true ∧ ¬ (x.f0 = 7 ∧ o = 0)
    · rw [if_pos c] at h
      rcases List.mem_cons.1 hd with rfl | hd
      · exact ⟨hz _ (by simp), c.1⟩
      · exact ih _ _ (fun y hy => hz y (by simp [hy])) h d hd
    · rw [if_neg c] at h; simp at h

theorem at_app {s : ByteArray} {P Q : List UInt8} (h : s.data.toList = P ++ Q) (j : Nat) (hj : j < Q.length) : P.length + j < s.size ∧ bt s ((P.length + j : Nat) : Int) = (((Q.getD j 0).toNat : Nat) : Int) := by
  have hz : s.size = P.length + Q.length := by rw [← size_len, h, List.length_append]
  refine ⟨by omega, ?_⟩
  unfold bt
  rw [dif_pos (by rw [Int.toNat_natCast]; omega)]
  congr 1
  have e1 : s.data.toList[P.length + j]? = Q[j]? := by rw [h, List.getElem?_append_right (by omega)]; congr 1; omega
  have e2 : s.data.toList[P.length + j]? = some (s[P.length + j]'(by omega)) := by
    rw [Array.getElem?_toList, Array.getElem?_eq_getElem (by show P.length + j < s.data.size; have : s.data.size = s.size := rfl; omega)]
    rfl
  simp only [Int.toNat_natCast]
  rw [e1] at e2
  rw [List.getD_eq_getElem?_getD, e2]; rfl
theorem hex_idx (p : Nat) (h : p < 16) : Lib.indexByte [48, 49, 50, 51, 52, 53, 54, 55, 56, 57, 97, 98, 99, 100, 101, 102] (((hexB p).toNat : Int).toNat.toUInt8) = (p : Int) :=
  (by decide +kernel : ∀ p : Fin 16, Lib.indexByte [48, 49, 50, 51, 52, 53, 54, 55, 56, 57, 97, 98, 99, 100, 101, 102] (((hexB p.val).toNat : Int).toNat.toUInt8) = (p.val : Int)) ⟨p, h⟩
theorem hex_or (p q : Nat) (hp : p < 16) (hq : q < 16) : (Go.bits .or .i64 (wrap64 ((p : Int) * 16)) (q : Int)) % 256 = ((16 * p + q : Nat) : Int) :=
  (by decide +kernel : ∀ p q : Fin 16, (Go.bits .or .i64 (wrap64 ((p.val : Int) * 16)) (q.val : Int)) % 256 = ((16 * p.val + q.val : Nat) : Int)) ⟨p, hp⟩ ⟨q, hq⟩
theorem un_l0 (s : ByteArray) (hs : s.size ≤ 1099511627776) (l : List UInt8) : ∀ (P : List UInt8) (acc : List Int) (K : Nat), s.data.toList = P ++ escL l → 3 * l.length < K → acc.length + l.length < 140737488355328 →
    doc_unescaped.l0 K s acc (P.length : Int) = some (strOfNums (acc ++ l.map fun c => ((c.toNat : Nat) : Int))) := by
  induction l with
  | nil =>
    intro P acc K h hK _
    obtain ⟨K, rfl⟩ : ∃ m, K = m + 1 := ⟨K - 1, by omega⟩
    have hz : s.size = P.length := by rw [← size_len, h]; simp [escL]
    rw [doc_unescaped.l0, if_neg (by omega)]
    simp
  | cons c r ih =>
    intro P acc K h hK hacc
    simp only [List.length_cons] at hK hacc
    obtain ⟨K, rfl⟩ : ∃ m, K = m + 3 := ⟨K - 3, by omega⟩
    have hE : escL (c :: r) = escB c ++ escL r := by simp [escL]
    rw [hE] at h
    have hsz : s.size = P.length + ((escB c).length + (escL r).length) := by rw [← size_len, h, List.length_append, List.length_append]
    have hPl : P.length < 1099511627776 + 1 := by omega
    have hcl : c.toNat < 256 := UInt8.toNat_lt _
    have hq : ∀ n : Nat, n ≤ 10 → Hid (wrap64 ((P.length : Int) + (n : Int)) = ((P.length + n : Nat) : Int)) := fun n hn => Lib.hid (by rw [w64 (by omega) (by omega)]; omega)
    have q1 := hq 1 (by omega)
    have nxt : ∀ (e : List UInt8), s.data.toList = P ++ (e ++ escL r) → ∀ acc', acc'.length ≤ acc.length + 1 → doc_unescaped.l0 K s acc' ((P.length + e.length : Nat) : Int) = some (strOfNums (acc' ++ r.map fun c => ((c.toNat : Nat) : Int))) := fun e he acc' ha => by
      have := ih (P ++ e) acc' K (by rw [he, List.append_assoc]) (by omega) (by omega)
      rw [List.length_append] at this; exact this
    have fin : ∀ x : Int, x = ((c.toNat : Nat) : Int) → acc ++ [x] ++ r.map (fun c => ((c.toNat : Nat) : Int)) = acc ++ (c :: r).map (fun c => ((c.toNat : Nat) : Int)) := fun x hx => by rw [hx]; simp
    by_cases c92 : c = 92
    · have ee : escB c = [92, 92] := by unfold escB; rw [if_pos c92]
      rw [ee] at h hsz
      simp only [List.length_cons, List.length_nil] at hsz
      obtain ⟨b0, e0⟩ := at_app h 0 (by simp)
      obtain ⟨b1, e1⟩ := at_app h 1 (by simp)
      have e0 : bt s (P.length : Int) = 92 := e0
      have e1 : bt s ((P.length + 1 : Nat) : Int) = 92 := e1
      have hn := nxt [92, 92] h (acc ++ [92]) (by simp)
      have q1' : wrap64 (((P.length + 1 : Nat) : Int) + 1) = ((P.length + 2 : Nat) : Int) := by rw [w64 (by omega) (by omega)]; omega
      replace q1' := Lib.hid q1'
      rw [show K + 3 = (K + 2) + 1 from rfl, doc_unescaped.l0, if_pos (by omega), if_pos (by omega), e0, if_pos rfl]
      rw [show K + 2 = (K + 1) + 1 from rfl, doc_unescaped.j1, show wrap64 ((P.length : Int) + 1) = ((P.length + 1 : Nat) : Int) from q1.out, if_neg (by simp; omega), if_pos (by omega), if_pos (by omega), e1, if_neg (by omega)]
      rw [doc_unescaped.j2, if_neg ff, if_pos (by omega), if_pos (by omega), if_pos (by omega), e1, q1'.out]
      rw [show ((P.length + ([92, 92] : List UInt8).length : Nat) : Int) = ((P.length + 2 : Nat) : Int) from rfl] at hn
      rw [hn, fin 92 (by rw [c92]; rfl)]
    · by_cases cp : 32 ≤ c ∧ c ≤ 126
      · have ee : escB c = [c] := by unfold escB; rw [if_neg c92, if_pos cp]
        rw [ee] at h hsz
        simp only [List.length_cons, List.length_nil] at hsz
        obtain ⟨b0, e0⟩ := at_app h 0 (by simp)
        have e0 : bt s (P.length : Int) = ((c.toNat : Nat) : Int) := e0
        have n92 : ¬ ((c.toNat : Nat) : Int) = 92 := fun e => c92 (UInt8.toNat_inj.1 (by show c.toNat = 92; omega))
        have hn := nxt [c] h (acc ++ [((c.toNat : Nat) : Int)]) (by simp)
        rw [show ((P.length + [c].length : Nat) : Int) = ((P.length + 1 : Nat) : Int) from rfl] at hn
        rw [show K + 3 = (K + 2) + 1 from rfl, doc_unescaped.l0, if_pos (by omega), if_pos (by omega), e0, if_neg n92]
        have up : doc_unescaped.l0 (K + 1) s (acc ++ [((c.toNat : Nat) : Int)]) ((P.length + 1 : Nat) : Int) = some (strOfNums (acc ++ [((c.toNat : Nat) : Int)] ++ r.map fun c => ((c.toNat : Nat) : Int))) := (doc_unescaped.mono_l K).1 _ _ _ _ hn
        rw [show K + 2 = (K + 1) + 1 from rfl, doc_unescaped.j1, if_pos rfl, if_pos (by omega), if_pos (by omega), if_pos (by omega), e0, show wrap64 ((P.length : Int) + 1) = ((P.length + 1 : Nat) : Int) from q1.out, up, fin _ rfl]
      · have ee : escB c = [92, 120, hexB (c.toNat / 16), hexB (c.toNat % 16)] := by unfold escB; rw [if_neg c92, if_neg cp]
        rw [ee] at h hsz
        simp only [List.length_cons, List.length_nil] at hsz
        obtain ⟨b0, e0⟩ := at_app h 0 (by simp)
        obtain ⟨b1, e1⟩ := at_app h 1 (by simp)
        obtain ⟨b2, e2⟩ := at_app h 2 (by simp)
        obtain ⟨b3, e3⟩ := at_app h 3 (by simp)
        have e0 : bt s (P.length : Int) = 92 := e0
        have e1 : bt s ((P.length + 1 : Nat) : Int) = 120 := e1
        have e2 : bt s ((P.length + 2 : Nat) : Int) = (((hexB (c.toNat / 16)).toNat : Nat) : Int) := e2
        have e3 : bt s ((P.length + 3 : Nat) : Int) = (((hexB (c.toNat % 16)).toNat : Nat) : Int) := e3
        have hn := nxt [92, 120, hexB (c.toNat / 16), hexB (c.toNat % 16)] h (acc ++ [((c.toNat : Nat) : Int)]) (by simp)
        rw [show ((P.length + [92, 120, hexB (c.toNat / 16), hexB (c.toNat % 16)].length : Nat) : Int) = ((P.length + 4 : Nat) : Int) from rfl] at hn
        have q2 : Hid (wrap64 (((P.length + 1 : Nat) : Int) + 1) = ((P.length + 2 : Nat) : Int)) := Lib.hid (by rw [w64 (by omega) (by omega)]; omega)
        have q3 : Hid (wrap64 (((P.length + 1 : Nat) : Int) + 2) = ((P.length + 3 : Nat) : Int)) := Lib.hid (by rw [w64 (by omega) (by omega)]; omega)
        have q4 : Hid (wrap64 (((P.length + 3 : Nat) : Int) + 1) = ((P.length + 4 : Nat) : Int)) := Lib.hid (by rw [w64 (by omega) (by omega)]; omega)
        rw [show K + 3 = (K + 2) + 1 from rfl, doc_unescaped.l0, if_pos (by omega), if_pos (by omega), e0, if_pos rfl]
        rw [show K + 2 = (K + 1) + 1 from rfl, doc_unescaped.j1, show wrap64 ((P.length : Int) + 1) = ((P.length + 1 : Nat) : Int) from q1.out, if_neg (by simp; omega), if_pos (by omega), if_pos (by omega), e1, if_pos rfl, q3.out]
        unfold doc_unescaped.j2
        rw [if_pos (by simp; omega), q2.out, q3.out, if_pos (by omega), if_pos (by omega), e2]
        unfold strings_IndexByte.f
        rw [Option.bind_some, if_pos (by omega), if_pos (by omega), e3, Option.bind_some, if_pos (by omega), q4.out]
        rw [show (⟨#[48, 49, 50, 51, 52, 53, 54, 55, 56, 57, 97, 98, 99, 100, 101, 102]⟩ : ByteArray).data.toList = [48, 49, 50, 51, 52, 53, 54, 55, 56, 57, 97, 98, 99, 100, 101, 102] from rfl, hex_idx _ (by omega), hex_idx _ (by omega), hex_or _ _ (by omega) (by omega), show 16 * (c.toNat / 16) + c.toNat % 16 = c.toNat by omega, hn, fin _ rfl]
theorem nums_str (t : ByteArray) : strOfNums (t.data.toList.map fun c => ((c.toNat : Nat) : Int)) = t := by
  have e : (strOfNums (t.data.toList.map fun c => ((c.toNat : Nat) : Int))).data.toList = t.data.toList := by
    rw [strOfNums_data, List.map_map]
    conv => rhs; rw [← List.map_id t.data.toList]
    apply List.map_congr_left
    intro c _
    simp
  cases hx : strOfNums (t.data.toList.map fun c => ((c.toNat : Nat) : Int)) with
  | mk d => cases t with | mk d2 => rw [hx] at e; simp at e; rw [e]
theorem escL_ge (l : List UInt8) : l.length ≤ (escL l).length := by
  induction l with
  | nil => simp [escL]
  | cons c r ih =>
    have h1 : 1 ≤ (escB c).length := by unfold escB; split; simp; split <;> simp
    have h2 : escL (c :: r) = escB c ++ escL r := by simp [escL]
    rw [h2, List.length_append, List.length_cons]; omega
theorem un_esc (t : ByteArray) (s : ByteArray) (hs : s.size ≤ 1099511627776) (h : s.data.toList = escL t.data.toList) (K : Nat) (hK : 3 * t.size < K) : doc_unescaped.f K s = some t := by
  have ht : t.size ≤ s.size := by
    have := escL_ge t.data.toList
    rw [← h, size_len, size_len] at this; exact this
  have := un_l0 s hs t.data.toList [] [] K (by rw [h]; rfl) (by rw [size_len]; exact hK) (by rw [size_len]; simp; omega)
  unfold doc_unescaped.f
  rw [List.nil_append, nums_str] at this
  exact this
end Go.Proofs.YtbdilejhbeffjaaDoor
