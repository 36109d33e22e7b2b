/- Texts of letters alone (no blanks, no line feeds) in a sink: no blank stands at a line's end, and columns. Plain Lean; no program is walked here; no condition. -/
import Derived.Test.YtphcmbdmkhmfbaaDoorDoes
import Derived.Lib.TrimAscii
namespace Go.Proofs.YtphcmbdmkhmfbaaDoor
open Go.RowKit Go.Lib
def Letter (c : UInt8) : Prop := 33 ≤ c.toNat ∧ c.toNat ≤ 126
def Fine (c : UInt8) : Prop := 32 ≤ c.toNat ∧ c.toNat ≤ 126
theorem inPairs_low (p : Int) : ∀ (n : Nat) (l : List Int), l.length ≤ n → (∀ a ∈ l, p < a) → inPairs p l = false
  | _, [], _, _ => rfl
  | _, [_], _, _ => rfl
  | 0, a :: b :: r, h, _ => by simp at h
  | n + 1, a :: b :: r, h, hl => by
    have h1 := hl a (by simp)
    have h2 := inPairs_low p n r (by simp at h; omega) (fun c hc => hl c (by simp [hc]))
    simp only [inPairs, h2, Bool.or_false]
    rw [decide_eq_false (by omega)]; rfl
theorem widV_low (p : Int) (h : p ≤ 126) : widV p = 1 := by
  unfold widV
  rw [inPairs_low p 22 dblL (by decide) (fun a ha => by have : ∀ a ∈ dblL, (126 : Int) < a := by decide
                                                        have := this a ha; omega), inPairs_low p 10 nonL (by decide) (fun a ha => by have : ∀ a ∈ nonL, (126 : Int) < a := by decide
                                                                                                                                     have := this a ha; omega)]
  rfl
theorem wid_fine : ∀ (T : List UInt8), (∀ c ∈ T, Fine c) → wid T = T.length
  | [], _ => by unfold wid; rw [pts_nil]; rfl
  | c :: t, h => by
    have hc := h c (by simp)
    have ih := wid_fine t (fun d hd => h d (by simp [hd]))
    unfold wid at ih ⊢
    rw [pts_step _ (by simp), decodeL_ascii c t (by have := hc.2; omega)]
    simp only [List.drop_succ_cons, List.drop_zero, sumW, ih, List.length_cons]
    rw [widV_low _ (by have := hc.2; omega)]
    omega
theorem byteAt_list (s : ByteArray) (l : List UInt8) (hl : s.data.toList = l) (i : Nat) : byteAt s i = (l.getD i 0).toNat := by unfold byteAt; rw [hl]
theorem not10 {c : UInt8} (h : Fine c) : c.toNat ≠ 10 := by have := h.1; omega
theorem u8_ne {c : UInt8} {n : Nat} (h : c.toNat ≠ n) (hn : n < 256) : c ≠ UInt8.ofNat n := fun e => h (by rw [e]; simp; omega)
theorem nl_none (s : ByteArray) (h : ∀ c ∈ s.data.toList, c.toNat ≠ 10) : ∀ i, i ≤ s.size → nlAt s i = 0
  | 0, _ => rfl
  | i + 1, hi => by
    have hb : byteAt s i ≠ 10 := by
      unfold byteAt
      have hl : i < s.data.toList.length := by rw [size_len]; omega
      rw [List.getD_eq_getElem?_getD, List.getElem?_eq_getElem hl]
      exact h _ (List.getElem_mem hl)
    rw [nlAt, if_neg hb]; exact nl_none s h i (by omega)
theorem from_app (s : ByteArray) (A T : List UInt8) (hl : s.data.toList = A ++ T) (hT : ∀ c ∈ T, c.toNat ≠ 10) (hA : A = [] ∨ ∃ A', A = A' ++ [10]) : ∀ j, j ≤ T.length → fromAt s (A.length + j) = A.length
  | 0, _ => by
    rcases hA with rfl | ⟨A', rfl⟩
    · rfl
    · rw [Nat.add_zero, List.length_append, List.length_singleton, fromAt, if_pos]
      rw [byteAt_list s _ hl]; simp [List.getD_eq_getElem?_getD]
  | j + 1, hj => by
    have hb : byteAt s (A.length + j) ≠ 10 := by
      rw [byteAt_list s _ hl, List.getD_eq_getElem?_getD, List.getElem?_append_right (by omega)]
      rw [show A.length + j - A.length = j by omega, List.getElem?_eq_getElem (by omega)]
      exact hT _ (List.getElem_mem _)
    rw [← Nat.add_assoc, fromAt, if_neg hb]
    exact from_app s A T hl hT hA j (by omega)
/-- What a sink holds into which letters, blanks and line feeds alone were written. -/
structure Neat (p : Pn) (A T : List UInt8) : Prop where
  l : p.l = A ++ T
  ends : A = [] ∨ ∃ A', A = A' ++ [10]
  fine : ∀ c ∈ T, Fine c
  nob : ∀ i, p.l[i + 1]? = some 10 → p.l[i]? ≠ some 32
  lst : ∀ i, i + 1 = p.l.length → p.l[i]? ≠ some 32
  fresh : p.f = false → T = []
  full : p.f = true → p.y = T.length
theorem Neat.new : Neat ⟨[], false, 0, 0, 0⟩ [] [] := ⟨rfl, .inl rfl, (fun _ h => by simp at h), (fun i h => by simp at h), (fun i h => by simp at h), (fun _ => rfl), (fun h => by cases h)⟩
/-- Behind a text that ends with a letter. -/
theorem Neat.text {p : Pn} {A T : List UInt8} (h : Neat p A T) (R : List UInt8) (c : UInt8) (hR : ∀ c ∈ R, Fine c) (hc : Letter c) (y : Nat) (hy : y = (T ++ R ++ [c]).length) : Neat ⟨p.l ++ (R ++ [c]), true, p.x, y, 0⟩ A (T ++ R ++ [c]) := by
  have hRc : ∀ d ∈ R ++ [c], Fine d := fun d hd => by
    rcases List.mem_append.1 hd with h1 | h1
    · exact hR d h1
    · have := List.mem_singleton.1 h1; subst this; exact ⟨by have := hc.1; omega, hc.2⟩
  refine ⟨by simp [h.l, List.append_assoc], h.ends, fun d hd => ?_, fun i hi => ?_, fun i hi => ?_, (fun e => by cases e), fun _ => hy⟩
  · rw [List.append_assoc] at hd
    rcases List.mem_append.1 hd with h1 | h1
    · exact h.fine d h1
    · exact hRc d h1
  · simp only at hi ⊢
    by_cases h1 : i + 1 < p.l.length
    · rw [List.getElem?_append_left h1] at hi
      rw [List.getElem?_append_left (by omega)]
      exact h.nob i hi
    · rw [List.getElem?_append_right (by omega)] at hi
      have hm := List.mem_of_getElem? hi
      exact absurd rfl (not10 (hRc _ hm))
  · simp only [List.length_append, List.length_singleton] at hi
    simp only
    rw [List.getElem?_append_right (by omega), List.getElem?_append_right (by omega), show i - p.l.length - R.length = 0 by omega]
    simp
    intro e; subst e; have := hc.1; simp at this
/-- Behind a line feed. -/
theorem Neat.feed {p : Pn} {A T : List UInt8} (h : Neat p A T) (x : Nat) : Neat ⟨p.l ++ [10], false, x, 0, 0⟩ (A ++ T ++ [10]) [] := by
  refine ⟨by simp [h.l], .inr ⟨_, rfl⟩, (fun _ h => by simp at h), fun i hi => ?_, fun i hi => ?_, (fun _ => rfl), (fun e => by cases e)⟩
  · simp only at hi ⊢
    by_cases h1 : i + 1 < p.l.length
    · rw [List.getElem?_append_left h1] at hi
      rw [List.getElem?_append_left (by omega)]
      exact h.nob i hi
    · have h2 : i + 1 = p.l.length := by
        have := (List.getElem?_eq_some_iff.1 hi).1
        simp at this; omega
      rw [List.getElem?_append_left (by omega)]
      exact h.lst i h2
  · simp only [List.length_append, List.length_singleton] at hi
    simp only
    rw [List.getElem?_append_right (by omega), show i - p.l.length = 0 by omega]
    simp
theorem Neat.same {p : Pn} {A T : List UInt8} (h : Neat p A T) (z : Nat) : Neat ⟨p.l ++ [], p.f, p.x, p.y, z⟩ A T :=
  ⟨by simp [h.l], h.ends, h.fine, by simpa using h.nob, by simpa using h.lst, h.fresh, h.full⟩
theorem snoc_of {P : List UInt8} (h : P ≠ []) : ∃ Q c, P = Q ++ [c] := ⟨P.dropLast, P.getLast h, (List.dropLast_concat_getLast h).symm⟩
/-- How much waits behind a call. -/
def waitOf (a : ActV) (f : Bool) (z : Nat) : Nat := (dStep a f 0 0 z).z
set_option maxRecDepth 100000 in
theorem Neat.step {p : Pn} {A T : List UInt8} (h : Neat p A T) (a : ActV) (hP : a.k = 1 → ∀ c ∈ a.t.data.toList, Letter c) : ∃ A' T', Neat (dPn a p) A' T' := by
  unfold dPn
  simp only
  by_cases k1 : a.k = 1
  · by_cases ht : a.t.size = 0
    · have e : dStep a p.f p.x p.y p.z = ⟨[], p.f, p.x, p.y, p.z⟩ := by unfold dStep; rw [if_pos k1, if_pos ht]
      rw [e]; exact ⟨A, T, h.same _⟩
    · have hl := hP k1
      have hF : ∀ c ∈ a.t.data.toList, Fine c := fun c hc => ⟨by have := (hl c hc).1; omega, (hl c hc).2⟩
      have h10 : ∀ c ∈ a.t.data.toList, c.toNat ≠ 10 := fun c hc => not10 (hF c hc)
      have hn := nl_none a.t h10 a.t.size (Nat.le_refl _)
      have hf0 := fromAt_zero a.t _ hn
      have hsz : a.t.data.toList.length = a.t.size := size_len a.t
      obtain ⟨Q, c, hQ⟩ := snoc_of (P := a.t.data.toList) (fun e => ht (by rw [← hsz, e]; rfl))
      have hc : Letter c := hl c (by rw [hQ]; simp)
      have hQF : ∀ d ∈ Q, Fine d := fun d hd => hF d (by rw [hQ]; simp [hd])
      have hcol : ∀ y : Int, 0 ≤ y → (colAfter a.t y).toNat = y.toNat + a.t.size := fun y hy => by
        unfold colAfter; rw [hn, hf0, if_pos rfl, List.drop_zero, wid_fine _ hF, hsz]; omega
      have hb32 : ∀ n, ∀ d ∈ List.replicate n (32 : UInt8), Fine d := fun n d hd => by rw [List.eq_of_mem_replicate hd]; exact ⟨by decide, by decide⟩
      have hQl : Q.length + 1 = a.t.size := by rw [← hsz, hQ]; simp
      cases hf : p.f
      · have hT := h.fresh hf
        subst hT
        have e : dStep a false p.x p.y p.z = ⟨(List.replicate p.x 32 ++ List.replicate p.z 32 ++ Q) ++ [c], true, p.x, p.x + p.z + a.t.size, 0⟩ := by
          unfold dStep; rw [if_pos k1, if_neg ht, hcol _ (by simp; omega), hQ]; simp [padOf, List.append_assoc]; omega
        rw [e]
        exact ⟨A, _, h.text (List.replicate p.x 32 ++ List.replicate p.z 32 ++ Q) c (fun d hd => by
          rcases List.mem_append.1 hd with h1 | h1
          · rcases List.mem_append.1 h1 with h2 | h2
            · exact hb32 _ d h2
            · exact hb32 _ d h2
          · exact hQF d h1) hc _ (by simp; omega)⟩
      · have hy := h.full hf
        have e : dStep a true p.x p.y p.z = ⟨(List.replicate p.z 32 ++ Q) ++ [c], true, p.x, p.y + p.z + a.t.size, 0⟩ := by
          unfold dStep; rw [if_pos k1, if_neg ht, hcol _ (by simp; omega), hQ]; simp [padOf, List.append_assoc]; omega
        rw [e]
        exact ⟨A, _, h.text (List.replicate p.z 32 ++ Q) c (fun d hd => by
          rcases List.mem_append.1 hd with h1 | h1
          · exact hb32 _ d h1
          · exact hQF d h1) hc _ (by simp; omega)⟩
  · by_cases k2 : a.k = 2
    · by_cases hn : 0 ≤ a.n ∧ a.n ≤ 1048576
      · have e : dStep a p.f p.x p.y p.z = ⟨[], p.f, p.x, p.y, p.z + a.n.toNat⟩ := by unfold dStep; rw [if_neg k1, if_pos k2, if_pos hn]
        rw [e]; exact ⟨A, T, h.same _⟩
      · have e : dStep a p.f p.x p.y p.z = ⟨[], p.f, p.x, p.y, p.z⟩ := by unfold dStep; rw [if_neg k1, if_pos k2, if_neg hn]
        rw [e]; exact ⟨A, T, h.same _⟩
    · by_cases k3 : a.k = 3
      · by_cases hn : 0 ≤ a.n ∧ a.n ≤ 1048576
        · have e : dStep a p.f p.x p.y p.z = ⟨[10], false, a.n.toNat, 0, 0⟩ := by unfold dStep; rw [if_neg k1, if_neg k2, if_pos k3, if_pos hn]
          rw [e]; exact ⟨_, _, h.feed _⟩
        · have e : dStep a p.f p.x p.y p.z = ⟨[], p.f, p.x, p.y, p.z⟩ := by unfold dStep; rw [if_neg k1, if_neg k2, if_pos k3, if_neg hn]
          rw [e]; exact ⟨A, T, h.same _⟩
      · by_cases k4 : a.k = 4
        · cases hf : p.f
          · have e : dStep a false p.x p.y p.z = ⟨[10], false, p.x, 0, 0⟩ := by unfold dStep; rw [if_neg k1, if_neg k2, if_neg k3, if_pos k4]; rfl
            rw [e]; exact ⟨_, _, h.feed _⟩
          · have e : dStep a true p.x p.y p.z = ⟨[], true, p.x, p.y, p.z⟩ := by unfold dStep; rw [if_neg k1, if_neg k2, if_neg k3, if_pos k4]; rfl
            rw [e]; have := h.same p.z; rw [hf] at this; exact ⟨A, T, this⟩
        · have e : dStep a p.f p.x p.y p.z = ⟨[], p.f, p.x, p.y, p.z⟩ := by unfold dStep; rw [if_neg k1, if_neg k2, if_neg k3, if_neg k4]
          rw [e]; exact ⟨A, T, h.same _⟩
/-- What the law's last loop and its end ask. -/
theorem Neat.end_ {p : Pn} {A T : List UInt8} (h : Neat p A T) (s : ByteArray) (hs : s.data.toList = p.l) :
    (∀ i, i + 1 < s.size → byteAt s (i + 1) = 10 → byteAt s i ≠ 32) ∧ (∀ i, i + 1 = s.size → byteAt s i ≠ 32) ∧ (p.f = false → fromAt s s.size = s.size) ∧ (p.f = true → wid (s.data.toList.drop (fromAt s s.size)) = p.y) := by
  have hsz : s.size = p.l.length := by rw [← hs, size_len]
  have hget : ∀ i (hi : i < p.l.length), byteAt s i = (p.l[i]'hi).toNat := fun i hi => by rw [byteAt_list s _ hs, List.getD_eq_getElem?_getD, List.getElem?_eq_getElem hi]; rfl
  have hof : ∀ (c : UInt8) (n : Nat) (hn : n < 256), c.toNat = n → c = UInt8.ofNat n := fun c n hn e => by rw [← e]; simp
  have hfr : fromAt s s.size = A.length := by
    have := from_app s A T (by rw [hs, h.l]) (fun c hc => not10 (h.fine c hc)) h.ends T.length (Nat.le_refl _)
    rw [hsz, h.l, List.length_append]; exact this
  refine ⟨fun i hi h10 h32 => ?_, fun i hi h32 => ?_, fun hf => ?_, fun hf => ?_⟩
  · rw [hget (i + 1) (by omega)] at h10
    rw [hget i (by omega)] at h32
    refine h.nob i ?_ ?_
    · rw [List.getElem?_eq_getElem (by omega), hof _ 10 (by decide) h10]; rfl
    · rw [List.getElem?_eq_getElem (by omega), hof _ 32 (by decide) h32]; rfl
  · rw [hget i (by omega)] at h32
    refine h.lst i (by omega) ?_
    rw [List.getElem?_eq_getElem (by omega), hof _ 32 (by decide) h32]; rfl
  · rw [hfr, hsz, h.l, h.fresh hf]; simp
  · rw [hfr, hs, h.l, List.drop_left, wid_fine T h.fine, h.full hf]
end Go.Proofs.YtphcmbdmkhmfbaaDoor
