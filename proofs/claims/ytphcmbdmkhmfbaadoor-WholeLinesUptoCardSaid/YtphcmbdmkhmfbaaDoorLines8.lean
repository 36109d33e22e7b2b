/- WholeLines: what is printed has all texts in order; of texts without line feeds no line ends with a blank, none is empty at the beginning, no two are empty. The plain law. WholeLines: the walk. -/
import Derived.Test.YtphcmbdmkhmfbaaDoorIdle
import Derived.Test.YtphcmbdmkhmfbaaDoorIdleW
namespace Go.Proofs.YtphcmbdmkhmfbaaDoor
open Go.RowKit Go.Lib
set_option linter.unusedVariables false
set_option linter.unusedSimpArgs false
theorem prGo_ind (W : Int) (I : List DocV → Ps → Prop) (step : ∀ d L x q b r, q.st = b :: r → rightB d = true → (∀ c ∈ q.st, 0 ≤ c.i ∧ c.i ≤ 1000) → I (d :: L) q → I L (prStep W b r d x q)) :
    ∀ (L : List DocV) (xs : List Int) (q : Ps), depthOk L → xs.length = L.length → (q.st.length : Int) = 1 - depth L → (∀ c ∈ q.st, 0 ≤ c.i ∧ c.i ≤ 1000) → I L q → I [] (prGo W L xs q)
  | [], xs, q, _, _, _, _, h => by simpa [prGo] using h
  | d :: L, [], q, _, hx, _, _, _ => by simp at hx
  | d :: L, x :: xs, q, hd, hx, hs, hb, h => by
    have h0 := hd.2 0
    have h1 := hd.2 1
    simp only [List.drop_zero, List.drop_succ_cons, depth] at h0 h1 hs
    obtain ⟨b, r, hq⟩ : ∃ b r, q.st = b :: r := by
      cases e : q.st with
      | nil => rw [e] at hs; simp at hs; omega
      | cons b r => exact ⟨b, r, rfl⟩
    have hr := hd.1 d (by simp)
    have h7 : d.k = 7 → r ≠ [] := fun h e => by
      have : opens d = -1 := by simp [opens, h]
      rw [hq, e] at hs
      simp at hs; omega
    obtain ⟨p1, p2, _⟩ := prStep_st W b r d x q hq hb (wide_ok d hr).2.2.2.2.1 h7
    have e : prGo W (d :: L) (x :: xs) q = prGo W L xs (prStep W b r d x q) := by rw [prGo, hq]
    rw [e]
    exact prGo_ind W I step L xs _ hd.tail (by simpa using hx) (by omega) p2 (step d L x q b r hq hr hb h)
theorem prAll_ind (W : Int) (I : List DocV → Ps → Prop) (step : ∀ d L x q b r, q.st = b :: r → rightB d = true → (∀ c ∈ q.st, 0 ≤ c.i ∧ c.i ≤ 1000) → I (d :: L) q → I L (prStep W b r d x q)) (L : List DocV) (hf : formAt L 0 0 = -1) (h : I L ps0) : I [] (prGo W L (wRun L).out ps0) := by
  have hd : depthOk L := ⟨(formAt_ok L 0 0 (Int.le_refl _) hf).1, fun j => formAt_tail L 0 0 j (Int.le_refl _) hf⟩
  have h0 := (formAt_ok L 0 0 (Int.le_refl _) hf).2
  exact prGo_ind W I step L _ ps0 hd (wRun_ok L hd.1 hd.2).1 (by simp [ps0]; omega) (by simp [ps0]) h
def bareL (l : List UInt8) : List UInt8 := l.filter fun c => !decide (c = 32) && !decide (c = 10)
theorem bareL_app (l m : List UInt8) : bareL (l ++ m) = bareL l ++ bareL m := List.filter_append _ _
theorem bareL_rep (n : Nat) : bareL (List.replicate n 32) = [] := by
  unfold bareL; rw [List.filter_eq_nil_iff]
  intro c hc
  have := List.eq_of_mem_replicate hc
  subst this; decide
def textsOf : List DocV → List UInt8
  | [] => []
  | d :: r => d.t.data.toList ++ textsOf r
theorem text_nil (d : DocV) (h : rightB d = true) (k : ¬ d.k = 1) : d.t.data.toList = [] := by
  have hs : d.t.data.toList.length = d.t.size := Array.length_toList
  have : d.t.size = 0 := by
    unfold rightB at h
    rw [if_neg k] at h
    split at h
    · simp only [Bool.and_eq_true, decide_eq_true_eq] at h; omega
    · split at h
      · simp only [Bool.and_eq_true, decide_eq_true_eq] at h; omega
      · split at h
        · simp only [decide_eq_true_eq] at h; omega
        · cases h
  exact List.length_eq_zero_iff.1 (by omega)
theorem dPn_empty (p : Pn) : dPn ⟨4, false, ⟨#[]⟩, 0⟩ p = ⟨p.l ++ [10], false, p.x, 0, 0⟩ ∨ dPn ⟨4, false, ⟨#[]⟩, 0⟩ p = p := by
  obtain ⟨l, f, x, y, z⟩ := p
  cases f
  · left; unfold dPn dStep; simp
  · right; unfold dPn dStep; simp
theorem dPn_feed (n : Int) (p : Pn) : dPn ⟨3, false, ⟨#[]⟩, n⟩ p = ⟨p.l ++ [10], false, n.toNat, 0, 0⟩ ∨ dPn ⟨3, false, ⟨#[]⟩, n⟩ p = p := by
  obtain ⟨l, f, x, y, z⟩ := p
  by_cases h : 0 ≤ n ∧ n ≤ 1048576
  · left; unfold dPn dStep; simp [h]
  · right; unfold dPn dStep; simp [h]
theorem dPn_blanks (n : Int) (p : Pn) : (dPn ⟨2, false, ⟨#[]⟩, n⟩ p).l = p.l ∧ (dPn ⟨2, false, ⟨#[]⟩, n⟩ p).f = p.f := by
  obtain ⟨l, f, x, y, z⟩ := p
  by_cases h : 0 ≤ n ∧ n ≤ 1048576 <;> (unfold dPn dStep; simp [h])
theorem bare_step (W : Int) (d : DocV) (x : Int) (q : Ps) (b : Bk) (r : List Bk) (h : rightB d = true) : bareL (prStep W b r d x q).p.l = bareL q.p.l ++ bareL d.t.data.toList := by
  by_cases k1 : d.k = 1
  · have e : (prStep W b r d x q).p = dPn ⟨1, false, d.t, 0⟩ q.p := by unfold prStep; rw [if_neg (by omega), if_neg (by omega), if_neg (by omega), if_pos k1]
    rw [e]
    unfold dPn dStep
    simp only [if_true]
    split
    · rename_i h0
      have : d.t.data.toList = [] := List.length_eq_zero_iff.1 (by rw [Array.length_toList]; exact h0)
      rw [this]; simp [bareL]
    · simp only [bareL_app, bareL_rep, padOf]
      cases q.p.f <;> simp [bareL_rep, bareL]
  · rw [text_nil d h k1]
    have hb : bareL ([] : List UInt8) = [] := rfl
    rw [hb, List.append_nil]
    unfold prStep
    split
    · rfl
    split
    · rfl
    split
    · split
      · rcases dPn_empty q.p with e | e <;> rw [e]
        rw [bareL_app]; simp [bareL]
      · rfl
    split
    · rfl
    split
    · rcases dPn_feed b.i q.p with e | e <;> simp only [e]
      rw [bareL_app]; simp [bareL]
    · simp only [(dPn_blanks _ q.p).1]
theorem bare_all (W : Int) (L : List DocV) (hf : formAt L 0 0 = -1) : bareL (prAll W L) = bareL (textsOf L) := by
  have := prAll_ind W (fun R q => bareL q.p.l ++ bareL (textsOf R) = bareL (textsOf L)) (fun d R x q b r _ hr _ h => by
    rw [bare_step W d x q b r hr, ← h, textsOf, bareL_app, List.append_assoc]) L hf (by simp [ps0, bareL])
  simpa [prAll, textsOf, bareL] using this
/-- No blank ahead of a line feed or the end; no line feed at the beginning, no three. -/
structure Fair (l : List UInt8) : Prop where
  a : ∀ i : Nat, l[i]? = some 32 → ∃ c, l[i + 1]? = some c ∧ c ≠ 10
  b : ∀ i : Nat, l[i]? = some 10 → 0 < i ∧ ¬ (1 < i ∧ l[i - 1]? = some 10 ∧ l[i - 2]? = some 10)
theorem Fair.nil : Fair [] := ⟨fun i h => by simp at h, fun i h => by simp at h⟩
theorem Fair.app {l m : List UInt8} (h : Fair l) (h10 : ∀ c ∈ m, c ≠ 10) (hl : ∀ c, m.getLast? = some c → c ≠ 32) : Fair (l ++ m) := by
  refine ⟨fun i hi => ?_, fun i hi => ?_⟩
  · by_cases hlt : i < l.length
    · rw [List.getElem?_append_left hlt] at hi
      obtain ⟨c, hc, hn⟩ := h.a i hi
      have := (List.getElem?_eq_some_iff.1 hc).1
      exact ⟨c, by rw [List.getElem?_append_left this]; exact hc, hn⟩
    · rw [List.getElem?_append_right (by omega)] at hi
      have hi2 := (List.getElem?_eq_some_iff.1 hi).1
      have hne : i - l.length + 1 ≠ m.length := fun e => by
        have : m.getLast? = some 32 := by rw [List.getLast?_eq_getElem?, ← e, Nat.add_sub_cancel]; exact hi
        exact hl _ this rfl
      refine ⟨m[i - l.length + 1]'(by omega), ?_, h10 _ (List.getElem_mem _)⟩
      rw [List.getElem?_append_right (by omega), show i + 1 - l.length = i - l.length + 1 by omega]
      exact List.getElem?_eq_getElem _
  · by_cases hlt : i < l.length
    · rw [List.getElem?_append_left hlt] at hi
      obtain ⟨h1, h2⟩ := h.b i hi
      refine ⟨h1, fun e => h2 ⟨e.1, ?_, ?_⟩⟩
      · have := e.2.1; rwa [List.getElem?_append_left (by omega)] at this
      · have := e.2.2; rwa [List.getElem?_append_left (by omega)] at this
    · rw [List.getElem?_append_right (by omega)] at hi
      exact absurd rfl (h10 _ (List.mem_of_getElem? hi))
theorem Fair.feed {l : List UInt8} (h : Fair l) (hne : l ≠ []) (hl : ∀ c, l.getLast? = some c → c ≠ 32) (h3 : ¬ (1 < l.length ∧ l[l.length - 1]? = some 10 ∧ l[l.length - 2]? = some 10)) : Fair (l ++ [10]) := by
  have hpos : 0 < l.length := List.length_pos_iff.2 hne
  refine ⟨fun i hi => ?_, fun i hi => ?_⟩
  · by_cases hlt : i < l.length
    · rw [List.getElem?_append_left hlt] at hi
      obtain ⟨c, hc, hn⟩ := h.a i hi
      have := (List.getElem?_eq_some_iff.1 hc).1
      exact ⟨c, by rw [List.getElem?_append_left this]; exact hc, hn⟩
    · rw [List.getElem?_append_right (by omega)] at hi
      have hi2 := (List.getElem?_eq_some_iff.1 hi).1
      have : i - l.length = 0 := by simp at hi2; omega
      rw [this] at hi; simp at hi
  · by_cases hlt : i < l.length
    · rw [List.getElem?_append_left hlt] at hi
      obtain ⟨h1, h2⟩ := h.b i hi
      refine ⟨h1, fun e => h2 ⟨e.1, ?_, ?_⟩⟩
      · have := e.2.1; rwa [List.getElem?_append_left (by omega)] at this
      · have := e.2.2; rwa [List.getElem?_append_left (by omega)] at this
    · rw [List.getElem?_append_right (by omega)] at hi
      have hi2 := (List.getElem?_eq_some_iff.1 hi).1
      have : i = l.length := by simp at hi2; omega
      subst this
      refine ⟨hpos, fun e => h3 ⟨e.1, ?_, ?_⟩⟩
      · have := e.2.1; rwa [List.getElem?_append_left (by omega)] at this
      · have := e.2.2; rwa [List.getElem?_append_left (by omega)] at this
structure FairP (q : Ps) : Prop where
  fair : Fair q.p.l
  c : q.p.f = true → q.em = false ∧ q.pr = true ∧ ∃ m c, q.p.l = m ++ [c] ∧ c ≠ 32 ∧ c ≠ 10
  d : q.p.f = false → (q.p.l = [] ∧ q.pr = false) ∨ (q.pr = true ∧ ∃ m c, c ≠ 10 ∧ c ≠ 32 ∧ q.p.l = m ++ [c] ++ (if q.em then [10, 10] else [10]))
theorem edge_ends (t : ByteArray) (h1 : 1 ≤ t.size) (h2 : edgeN (byteAt t (t.size - 1)) = false) : ∃ m c, t.data.toList = m ++ [c] ∧ c ≠ 32 ∧ c ≠ 10 := by
  have hs : t.data.toList.length = t.size := Array.length_toList
  have hne : t.data.toList ≠ [] := fun e => by rw [e] at hs; simp at hs; omega
  refine ⟨t.data.toList.dropLast, t.data.toList.getLast hne, (List.dropLast_concat_getLast hne).symm, ?_, ?_⟩
  all_goals
    intro e
    have hb : byteAt t (t.size - 1) = (t.data.toList.getLast hne).toNat := by
      unfold byteAt
      rw [List.getD_eq_getElem?_getD, ← hs, ← List.getLast?_eq_getElem?, List.getLast?_eq_some_getLast hne]; rfl
    rw [hb, e] at h2
    simp [edgeN] at h2
theorem fair_step (W : Int) (d : DocV) (x : Int) (q : Ps) (b : Bk) (r : List Bk) (h : rightB d = true) (hn : ∀ c ∈ d.t.data.toList, c ≠ 10) (F : FairP q) : FairP (prStep W b r d x q) := by
  have hlast : ∀ c, q.p.l.getLast? = some c → c ≠ 32 := fun c hc e => by
    subst e
    rw [List.getLast?_eq_getElem?] at hc
    obtain ⟨c, hc2, _⟩ := F.fair.a _ hc
    have := (List.getElem?_eq_some_iff.1 hc).1
    have := (List.getElem?_eq_some_iff.1 hc2).1
    omega
  unfold prStep
  split
  · exact ⟨F.fair, F.c, F.d⟩
  split
  · exact ⟨F.fair, F.c, F.d⟩
  split
  · split
    · rename_i hc
      obtain ⟨hf, hp, he⟩ := hc
      have e1 : dPn ⟨4, false, ⟨#[]⟩, 0⟩ q.p = ⟨q.p.l ++ [10], false, q.p.x, 0, 0⟩ := by unfold dPn dStep; simp [hf]
      rw [e1]
      rcases F.d hf with ⟨_, h2⟩ | ⟨_, m, c, c10, c32, hl⟩
      · rw [hp] at h2; cases h2
      · rw [he] at hl
        simp only [Bool.false_eq_true, if_false] at hl
        refine ⟨F.fair.feed (by rw [hl]; simp) hlast (by
          intro e
          rw [hl] at e
          have := e.2.2
          simp at this
          exact c10 this), (fun e => by cases e), fun _ => .inr ⟨hp, m, c, c10, c32, by simp [hl]⟩⟩
    · exact ⟨F.fair, F.c, F.d⟩
  split
  · rename_i h6 h7 h5 k1
    unfold rightB at h
    rw [if_pos k1] at h
    simp only [Bool.and_eq_true, decide_eq_true_eq, Bool.not_eq_true'] at h
    obtain ⟨⟨⟨⟨s1, s2⟩, e1⟩, e2⟩, _⟩ := h
    obtain ⟨m, c, hm, c32, c10⟩ := edge_ends d.t s1 e2
    have hz : ¬ d.t.size = 0 := by omega
    have e3 : (dPn ⟨1, false, d.t, 0⟩ q.p).l = q.p.l ++ (padOf (!q.p.f) q.p.x ++ List.replicate q.p.z 32 ++ d.t.data.toList) ∧ (dPn ⟨1, false, d.t, 0⟩ q.p).f = true := by unfold dPn dStep; simp [hz]
    have hrep : ∀ n, ∀ c ∈ List.replicate n (32 : UInt8), c ≠ 10 := fun n c hc => by have := List.eq_of_mem_replicate hc; subst this; decide
    refine ⟨?_, fun _ => ⟨rfl, rfl, ?_⟩, fun e => ?_⟩
    · rw [e3.1]
      refine F.fair.app (fun c hc => ?_) (fun c' hc => ?_)
      · rcases List.mem_append.1 hc with hc | hc
        · rcases List.mem_append.1 hc with hc | hc
          · unfold padOf at hc; split at hc
            · exact hrep _ c hc
            · simp at hc
          · exact hrep _ c hc
        · exact hn c hc
      · rw [hm, ← List.append_assoc, List.getLast?_append] at hc
        simp at hc
        rw [← hc]; exact c32
    · exact ⟨q.p.l ++ (padOf (!q.p.f) q.p.x ++ List.replicate q.p.z 32 ++ m), c, by rw [e3.1, hm]; simp [List.append_assoc], c32, c10⟩
    · rw [e3.2] at e; cases e
  split
  · exact ⟨F.fair, F.c, F.d⟩
  rename_i hf
  have hf' : q.p.f = true := by simpa using hf
  obtain ⟨c1, c2, m, c, hm, c32, c10⟩ := F.c hf'
  split
  · have hfd := dPn_feed b.i q.p
    rcases hfd with e | e
    · rw [e]
      refine ⟨F.fair.feed (by rw [hm]; simp) hlast (by
        intro e2
        rw [hm] at e2
        have := e2.2.1
        simp at this
        exact c10 this), (fun e => by cases e), fun _ => .inr ⟨c2, m, c, c10, c32, by simp [hm]⟩⟩
    · rw [e]
      exact ⟨F.fair, fun _ => ⟨rfl, c2, m, c, hm, c32, c10⟩, fun e2 => by rw [hf'] at e2; cases e2⟩
  · have hbl := fun n => dPn_blanks n q.p
    refine ⟨?_, fun _ => ⟨rfl, c2, m, c, ?_, c32, c10⟩, fun e2 => ?_⟩
    · show Fair (dPn _ q.p).l
      rw [(hbl _).1]; exact F.fair
    · show (dPn _ q.p).l = _
      rw [(hbl _).1]; exact hm
    · have : (dPn ⟨2, false, ⟨#[]⟩, if d.k = 2 then 1 else d.b⟩ q.p).f = false := e2
      rw [(hbl _).2, hf'] at this; cases this
theorem fair_all (W : Int) (L : List DocV) (hf : formAt L 0 0 = -1) (hn : ∀ c ∈ textsOf L, c ≠ 10) : Fair (prAll W L) := by
  have := prAll_ind W (fun R q => FairP q ∧ ∀ c ∈ textsOf R, c ≠ 10) (fun d R x q b r _ hr _ h => ⟨fair_step W d x q b r hr (fun c hc => h.2 c (by simp [textsOf, hc])) h.1, fun c hc => h.2 c (by simp [textsOf, hc])⟩) L hf ⟨⟨Fair.nil, (fun e => by cases e), fun _ => .inl ⟨rfl, rfl⟩⟩, hn⟩
  exact this.1.fair
theorem len_all (W : Int) (L : List DocV) (hf : formAt L 0 0 = -1) : (prAll W L).length ≤ cost L := by
  have := prAll_ind W (fun R q => q.p.l.length + q.p.z + (if q.p.f then 0 else q.p.x) + cost R ≤ cost L) (fun d R x q b r hq hr hb h => by
    simp only [cost] at h
    have hb0 := hb b (by rw [hq]; simp)
    have hw := (wide_ok d hr).2.2.2.1
    unfold prStep
    split
    · simp only; omega
    split
    · simp only; omega
    split
    · split
      · rcases dPn_empty q.p with e | e
        · simp only [e, List.length_append, List.length_singleton]
          rename_i hc
          rw [hc.1] at h
          simp at h ⊢; omega
        · simp only [e]; omega
      · simp only; omega
    split
    · have hs : d.t.data.toList.length = d.t.size := Array.length_toList
      have e : (dPn ⟨1, false, d.t, 0⟩ q.p).l.length + (dPn ⟨1, false, d.t, 0⟩ q.p).z + (if (dPn ⟨1, false, d.t, 0⟩ q.p).f then 0 else (dPn ⟨1, false, d.t, 0⟩ q.p).x) ≤ q.p.l.length + q.p.z + (if q.p.f then 0 else q.p.x) + d.t.size := by
        unfold dPn dStep
        simp only [if_true]
        by_cases hz : d.t.size = 0
        · simp [hz]
        · simp only [hz, if_false, List.length_append, List.length_replicate, hs, padOf]
          cases q.p.f <;> simp <;> omega
      simp only; omega
    split
    · simp only; omega
    split
    · rcases dPn_feed b.i q.p with e | e
      · simp only [e, List.length_append, List.length_singleton]
        simp
        omega
      · simp only [e]; omega
    · have e : ∀ n : Int, 0 ≤ n → n ≤ 1000 → (dPn ⟨2, false, ⟨#[]⟩, n⟩ q.p).l.length + (dPn ⟨2, false, ⟨#[]⟩, n⟩ q.p).z + (if (dPn ⟨2, false, ⟨#[]⟩, n⟩ q.p).f then 0 else (dPn ⟨2, false, ⟨#[]⟩, n⟩ q.p).x) ≤ q.p.l.length + q.p.z + (if q.p.f then 0 else q.p.x) + 1000 := fun n h0 h1 => by
        unfold dPn dStep
        simp [show 0 ≤ n ∧ n ≤ 1048576 by omega]
        omega
      have := e (if d.k = 2 then 1 else d.b) (by split <;> omega) (by split <;> omega)
      simp only; omega) L hf (by simp [ps0])
  unfold prAll
  omega
end Go.Proofs.YtphcmbdmkhmfbaaDoor
namespace Go.Proofs.YtphcmbdmkhmfbaaDoor
open Go.RowKit Go.Lib
set_option linter.unusedVariables false
set_option linter.unusedSimpArgs false
theorem take_snoc8 (s : ByteArray) (i : Nat) (h : i < s.size) : s.data.toList.take (i + 1) = s.data.toList.take i ++ [s.data.toList.getD i 0] := by
  have hl : i < s.data.toList.length := by rw [Array.length_toList]; exact h
  rw [List.take_succ_eq_append_getElem hl, List.getD_eq_getElem?_getD, List.getElem?_eq_getElem hl]; rfl
theorem bareL_one (c : UInt8) (h1 : c.toNat ≠ 32) (h2 : c.toNat ≠ 10) : bareL [c] = [c] := by
  have e1 : c ≠ 32 := fun e => h1 (by rw [e]; rfl)
  have e2 : c ≠ 10 := fun e => h2 (by rw [e]; rfl)
  simp [bareL, e1, e2]
theorem bareL_no (c : UInt8) (h : c.toNat = 32 ∨ c.toNat = 10) : bareL [c] = [] := by
  have : c = 32 ∨ c = 10 := by
    rcases h with h | h
    · exact .inl (UInt8.toNat_inj.1 h)
    · exact .inr (UInt8.toNat_inj.1 h)
  rcases this with e | e <;> subst e <;> decide
set_option maxHeartbeats 4000000 in
set_option maxRecDepth 100000 in
theorem l8_bare (s : ByteArray) (w : World) (hs : s.size ≤ 17179869184) : Calls Tryd.prog 31 #[.string s] w fun e w' => e = .returned (.string ⟨(bareL s.data.toList).toArray⟩) ∧ Below w.heap.size w w' := by
  go_enter Tryd.func31, Tryd.ntmps31
  go_wp2_with fail
  go_loopw [3, 4] (fun bv iv W => ∃ (i : Nat), iv = .int .i64 i ∧ i ≤ s.size ∧ Buf W w.heap.size bv (bareL (s.data.toList.take i)) ∧ Below w.heap.size w W) (fun _ iv _ => s.size - (RowKit.intOf iv).toNat)
  case atStart => exact ⟨0, rfl, by omega, by simpa [bareL] using Buf.nil _ _, Below.refl _ _⟩
  case round =>
    obtain ⟨i, rfl, hi, hbuf, hb⟩ := hrel
    have hbz := hb.size
    obtain ⟨va, vc, hva⟩ := hbuf.shape
    have hlen : (bareL (s.data.toList.take i)).length ≤ i := by
      have h1 := List.length_filter_le (fun c : UInt8 => !decide (c = 32) && !decide (c = 10)) (s.data.toList.take i)
      have h2 : (s.data.toList.take i).length ≤ i := List.length_take_le _ _
      unfold bareL; omega
    by_cases hlt : i < s.size
    · have hi1 : (i : Int) < s.size := by omega
      have hi2 : (0 : Int) ≤ i := by omega
      have wi : IntKind.i64.wrap ((i : Int) + 1) = i + 1 := IntWalk.i64_in _ (by omega)
      have hmeas : s.size - (RowKit.intOf (.int .i64 ((i : Int) + 1))).toNat < s.size - (RowKit.intOf (.int .i64 (i : Int))).toNat := by simp [RowKit.intOf]; omega
      have hst : bareL (s.data.toList.take (i + 1)) = bareL (s.data.toList.take i) ++ bareL [s.data.toList.getD i 0] := by rw [take_snoc8 s i hlt, bareL_app]
      by_cases h32 : byteAt s i = 32
      · rw [bareL_no _ (.inl h32), List.append_nil] at hst
        have hq : ((byteAt s i : Int) == 32) = true := by simp; omega
        have hq' : ((byteAt s i : Int) != 32) = false := by simp; omega
        replace hst := Lib.hid hst; replace hbuf := Lib.hid hbuf; replace hb := Lib.hid hb; replace h32 := Lib.hid h32; replace hva := Lib.hid hva
        go_wp2_with fail
        exact ⟨⟨i + 1, by go_num, by omega, by rw [hst.out]; exact hbuf.out, hb.out⟩, hmeas⟩
      · have hq : ((byteAt s i : Int) == 32) = false := by simp; omega
        have hq' : ((byteAt s i : Int) != 32) = true := by simp; omega
        by_cases h10 : byteAt s i = 10
        · rw [bareL_no _ (.inr h10), List.append_nil] at hst
          have hp : ((byteAt s i : Int) == 10) = true := by simp; omega
          have hp' : ((byteAt s i : Int) != 10) = false := by simp; omega
          replace hst := Lib.hid hst; replace hbuf := Lib.hid hbuf; replace hb := Lib.hid hb; replace h32 := Lib.hid h32; replace hva := Lib.hid hva; replace h10 := Lib.hid h10
          go_wp2_with fail
          exact ⟨⟨i + 1, by go_num, by omega, by rw [hst.out]; exact hbuf.out, hb.out⟩, hmeas⟩
        · rw [bareL_one _ h32 h10] at hst
          have hp : ((byteAt s i : Int) == 10) = false := by simp; omega
          have hp' : ((byteAt s i : Int) != 10) = true := by simp; omega
          subst hva
          replace hst := Lib.hid hst; replace hbuf := Lib.hid hbuf; replace hb := Lib.hid hb; replace h32 := Lib.hid h32; replace h10 := Lib.hid h10
          go_wp2_with (at_builtin; refine app_byte rfl _ _ rfl w.heap.size rfl (s.data.toList.getD i 0) (hbuf.out.alloc _) ⟨wr.heap.size, 0, none⟩ 1 rfl (by simp [byteAt]) (by simp; omega) (by simp; omega) ?_; intro v2 w2 hv2 hg2; have hb2 := (hb.out.alloc hbz _).grown hg2 (by simp; omega) (fun k e => (hbuf.out.lt k e).1))
          exact ⟨⟨i + 1, by go_num, by omega, by rw [hst.out]; exact hv2, hb2⟩, hmeas⟩
    · have hi1 : ¬ (i : Int) < s.size := by omega
      have he : i = s.size := by omega
      subst he
      rw [List.take_of_length_le (by rw [Array.length_toList]; exact Nat.le_refl _)] at hbuf
      have hcv := buf_string hbuf
      subst hva
      replace hbuf := Lib.hid hbuf; replace hb := Lib.hid hb
      go_wp2_with fail
      go_ret
      exact ⟨rfl, hb.out⟩
/-- Has what came before a line feed? -/
theorem nl_take (t : ByteArray) (k : Nat) (h : k ≤ t.size) : (∀ c ∈ t.data.toList.take k, c ≠ 10) ↔ nlAt t k = 0 := by
  rw [← count_take t k h, List.count_eq_zero]
  exact ⟨fun h e => h 10 e rfl, fun h c hc e => h (e ▸ hc)⟩
def feedsB (l : List UInt8) : Bool := decide (0 < l.count 10)
theorem feedsB_app (l m : List UInt8) : feedsB (l ++ m) = (feedsB l || feedsB m) := by
  unfold feedsB; rw [List.count_append]
  by_cases h1 : 0 < l.count 10 <;> by_cases h2 : 0 < m.count 10 <;> simp [h1, h2] <;> omega
theorem feedsB_one (c : UInt8) : feedsB [c] = decide (c.toNat = 10) := by
  by_cases h : c = 10
  · subst h; decide
  · have : c.toNat ≠ 10 := fun e => h (UInt8.toNat_inj.1 e)
    unfold feedsB
    rw [List.count_singleton]
    simp [h, this]
theorem textsOf_take (L : List DocV) (i : Nat) (d : DocV) (h : L[i]? = some d) : textsOf (L.take (i + 1)) = textsOf (L.take i) ++ d.t.data.toList := by
  have hl := (List.getElem?_eq_some_iff.1 h).1
  rw [List.getElem?_eq_getElem hl] at h
  rw [List.take_succ_eq_append_getElem hl, Option.some.inj h]
  have : ∀ (A : List DocV) (c : DocV), textsOf (A ++ [c]) = textsOf A ++ c.t.data.toList := fun A c => by
    induction A with
    | nil => simp [textsOf]
    | cons a r ih => simp [textsOf, ih]
  exact this _ _
theorem textsOf_len : ∀ (L : List DocV), (textsOf L).length ≤ bulkD L
  | [] => by simp [textsOf]
  | d :: r => by
    have := textsOf_len r
    have hs : d.t.data.toList.length = d.t.size := Array.length_toList
    simp only [textsOf, bulkD, List.length_append, hs]; omega
theorem textsOf_take_len (L : List DocV) (i : Nat) : (textsOf (L.take i)).length ≤ bulkD L := by
  have h1 := textsOf_len (L.take i)
  have h2 : bulkD L = bulkD (L.take i) + bulkD (L.drop i) := by rw [← bulkD_append, List.take_append_drop]
  omega
theorem fair_byte (s : ByteArray) (h : Fair s.data.toList) (i : Nat) (hi : i < s.size) : (byteAt s i = 32 → i + 1 < s.size ∧ byteAt s (i + 1) ≠ 10) ∧ (byteAt s i = 10 → 0 < i ∧ ¬ (1 < i ∧ byteAt s (i - 1) = 10 ∧ byteAt s (i - 2) = 10)) := by
  have hs : s.data.toList.length = s.size := Array.length_toList
  have hg : ∀ j, j < s.size → s.data.toList[j]? = some (s.data.toList.getD j 0) := fun j hj => by
    rw [List.getD_eq_getElem?_getD, List.getElem?_eq_getElem (by omega)]; rfl
  have hb : ∀ j, byteAt s j = (s.data.toList.getD j 0).toNat := fun _ => rfl
  refine ⟨fun e => ?_, fun e => ?_⟩
  · have h32 : s.data.toList.getD i 0 = 32 := UInt8.toNat_inj.1 e
    obtain ⟨c, hc, hn⟩ := h.a i (by rw [hg i hi, h32])
    have h1 := (List.getElem?_eq_some_iff.1 hc).1
    refine ⟨by omega, fun e2 => hn ?_⟩
    rw [hg (i + 1) (by omega)] at hc
    rw [← Option.some.inj hc]; exact UInt8.toNat_inj.1 e2
  · have h10 : s.data.toList.getD i 0 = 10 := UInt8.toNat_inj.1 e
    obtain ⟨h1, h2⟩ := h.b i (by rw [hg i hi, h10])
    refine ⟨h1, fun e2 => h2 ⟨e2.1, ?_, ?_⟩⟩
    · rw [hg _ (by omega)]; congr 1; exact UInt8.toNat_inj.1 e2.2.1
    · rw [hg _ (by omega)]; congr 1; exact UInt8.toNat_inj.1 e2.2.2
set_option maxHeartbeats 8000000 in
set_option maxRecDepth 100000 in
theorem law_lines (W : Int) (aL : Option Addr) (cL : Nat) (L : List DocV) (w : World) (hL : Docs w aL L) (bL : bulkD L ≤ 1048576) (hT : Tabs w) (hg1 : 0 < w.heap.size) (hg2 : 1 < w.heap.size) :
    Calls Tryd.prog 9 #[.int .i64 W, .slice aL L.length cL] w fun e w' => e = .returned (.bool true) ∧ Below w.heap.size w w' := by
  have hlL := bulkD_len L
  have hcL := cost_bulk L
  have hp1 := whole_Print W aL cL L w hL (by omega) (by omega) hT hg1 hg2
  have haw := fun w2 (h : Below w.heap.size w w2) => awake8 w2 (hT.below h) (Nat.lt_of_lt_of_le hg1 h.size) (Nat.lt_of_lt_of_le hg2 h.size)
  replace haw := Lib.hid haw
  by_cases hok : (W < 1 ∨ 4096 < W) ∨ ¬ formAt L 0 0 = -1
  · have hres : prRes W L = .tuple #[.string ⟨#[]⟩, .int .i64 1] ∨ prRes W L = .tuple #[.string ⟨#[]⟩, .int .i64 70] := by
      unfold prRes
      by_cases h : W < 1 ∨ 4096 < W
      · rw [if_pos h]; exact .inl rfl
      · rw [if_neg h, if_pos (hok.resolve_left h)]; exact .inr rfl
    rcases hres with hres | hres
    all_goals
      rw [hres] at hp1
      replace hp1 := Lib.hid hp1; replace hL := Lib.hid hL; replace hT := Lib.hid hT; replace hres := Lib.hid hres; replace hcL := Lib.hid hcL; replace hok := Lib.hid hok
      go_enter Tryd.func9, Tryd.ntmps9
      go_wp2_with fail
      refine hp1.out.mono ?_
      rintro e w1 ⟨rfl, b1⟩
      replace b1 := Lib.hid b1
      go_wp2_with fail
      refine (haw.out _ b1.out).mono ?_
      rintro e w3 ⟨rfl, b3⟩
      replace b3 := Lib.hid (b1.out.trans (b3.mono b1.out.size))
      go_wp2_with fail
      go_ret
      exact ⟨rfl, b3.out⟩
  have hf : formAt L 0 0 = -1 := by
    by_cases h : formAt L 0 0 = -1
    · exact h
    · exact absurd (.inr h) hok
  have hW : ¬ (W < 1 ∨ 4096 < W) := fun h => hok (.inl h)
  have hres : prRes W L = .tuple #[.string ⟨(prAll W L).toArray⟩, .int .i64 0] := by unfold prRes; rw [if_neg hW, if_neg (by simp [hf])]
  rw [hres] at hp1
  obtain ⟨SS, hSS⟩ : ∃ SS : ByteArray, (⟨(prAll W L).toArray⟩ : ByteArray) = SS := ⟨_, rfl⟩
  have hSl : SS.data.toList = prAll W L := by rw [← hSS]
  have hSz : SS.size ≤ 17179869184 := by
    have := len_all W L hf
    have h2 : SS.data.toList.length = SS.size := Array.length_toList
    rw [hSl] at h2; omega
  have hba := bare_all W L hf
  have hfa := fair_all W L hf
  rw [hSS] at hp1
  rw [← hSl] at hba hfa
  replace hp1 := Lib.hid hp1; replace hL := Lib.hid hL; replace hT := Lib.hid hT; replace hres := Lib.hid hres; replace hcL := Lib.hid hcL; replace hok := Lib.hid hok
  replace hf := Lib.hid hf; replace hW := Lib.hid hW; replace hSl := Lib.hid hSl; replace hSS := Lib.hid hSS; replace hba := Lib.hid hba; replace hfa := Lib.hid hfa
  go_enter Tryd.func9, Tryd.ntmps9
  go_wp2_with fail
  refine hp1.out.mono ?_
  rintro e w1 ⟨rfl, b1⟩
  have hz1 := b1.size
  replace b1 := Lib.hid b1
  go_wp2_with fail
  go_loopw [7, 8, 9] (fun av fv iv W4 => ∃ (i : Nat), iv = .int .i64 i ∧ fv = .bool (feedsB (textsOf (L.take i))) ∧ i ≤ L.length ∧ Hid (Buf W4 w1.heap.size av (textsOf (L.take i))) ∧ Hid (Below w1.heap.size w1 W4)) (fun _ _ iv _ => L.length - (RowKit.intOf iv).toNat)
  case atStart => exact ⟨0, rfl, by simp [textsOf, feedsB], by omega, Lib.hid (by simpa [textsOf] using Buf.nil _ _), Lib.hid (Below.refl _ _)⟩
  case round =>
    obtain ⟨i, rfl, rfl, hi, hS, hb⟩ := hrel
    have hbz := hb.out.size
    have hb0 := Lib.hid (b1.out.trans (hb.out.mono hz1))
    obtain ⟨va, vc, hva⟩ := hS.out.shape
    obtain ⟨F, hF⟩ : ∃ F, feedsB (textsOf (L.take i)) = F := ⟨_, rfl⟩
    rw [hF]
    by_cases hlt : i < L.length
    · obtain ⟨d, hd⟩ : ∃ d, L[i]? = some d := ⟨_, List.getElem?_eq_getElem hlt⟩
      obtain ⟨bl, of, rfl, c0, c1, c2, c3, c4⟩ := (hL.out.below hb0.out) i d hd
      have hi1 : (i : Int) < L.length := by omega
      have hi2 : (0 : Int) ≤ i := by omega
      have wi : IntKind.i64.wrap ((i : Int) + 1) = i + 1 := IntWalk.i64_in _ (by omega)
      have hmeas : L.length - (RowKit.intOf (.int .i64 ((i : Int) + 1))).toNat < L.length - (RowKit.intOf (.int .i64 (i : Int))).toNat := by simp [RowKit.intOf]; omega
      have htk := textsOf_take L i d hd
      have htl := textsOf_take_len L i
      have htl2 := textsOf_take_len L (i + 1)
      have hdl : d.t.data.toList.length = d.t.size := Array.length_toList
      rw [htk, List.length_append, hdl] at htl2
      have hsz : (textsOf (L.take i)).length + d.t.size ≤ 140737488355328 := by omega
      have hts : d.t.size ≤ 1048576 := by omega
      subst hva
      replace htk := Lib.hid htk; replace hd := Lib.hid hd; replace hF := Lib.hid hF
      obtain ⟨wo, hwo⟩ : ∃ wo : World, wo = wr := ⟨_, rfl⟩
      go_wp2_with fail
      go_loop [8, 11] (fun fv kv => ∃ k : Nat, kv = .int .i64 k ∧ k ≤ d.t.size ∧ fv = .bool (F || feedsB (d.t.data.toList.take k))) (fun _ kv => d.t.size - (RowKit.intOf kv).toNat)
      case atStart => exact ⟨0, rfl, by omega, by simp [feedsB]⟩
      case round =>
        obtain ⟨k, rfl, hk, rfl⟩ := hrel
        obtain ⟨G, hG⟩ : ∃ G, (F || feedsB (d.t.data.toList.take k)) = G := ⟨_, rfl⟩
        rw [hG]
        by_cases hkt : k < d.t.size
        · have hk1 : (k : Int) < d.t.size := by omega
          have hk2 : (0 : Int) ≤ k := by omega
          have wk : IntKind.i64.wrap ((k : Int) + 1) = k + 1 := IntWalk.i64_in _ (by omega)
          have hms : d.t.size - (RowKit.intOf (.int .i64 ((k : Int) + 1))).toNat < d.t.size - (RowKit.intOf (.int .i64 (k : Int))).toNat := by simp [RowKit.intOf]; omega
          have hst : feedsB (d.t.data.toList.take (k + 1)) = (feedsB (d.t.data.toList.take k) || decide (byteAt d.t k = 10)) := by
            rw [take_snoc8 d.t k hkt, feedsB_app, feedsB_one]; rfl
          have hn : (F || feedsB (d.t.data.toList.take (k + 1))) = (G || decide (byteAt d.t k = 10)) := by rw [hst, ← Bool.or_assoc, hG]
          replace hn := Lib.hid hn; replace hG := Lib.hid hG; replace hst := Lib.hid hst
          cases G
          · by_cases h10 : byteAt d.t k = 10
            · have hq : ((byteAt d.t k : Int) == 10) = true := by simp; omega
              replace h10 := Lib.hid h10
              go_wp2_with fail
              exact ⟨⟨k + 1, by go_num, by omega, by rw [hn.out, h10.out]; rfl⟩, hms⟩
            · have hq : ((byteAt d.t k : Int) == 10) = false := by simp; omega
              replace h10 := Lib.hid h10
              go_wp2_with fail
              exact ⟨⟨k + 1, by go_num, by omega, by rw [hn.out, decide_eq_false h10.out]; rfl⟩, hms⟩
          · go_wp2_with fail
            exact ⟨⟨k + 1, by go_num, by omega, by rw [hn.out]; rfl⟩, hms⟩
        · have hk1 : ¬ (k : Int) < d.t.size := by omega
          have hke : k = d.t.size := by omega
          subst hke
          have hfin : feedsB (textsOf (L.take (i + 1))) = G := by
            rw [htk.out, feedsB_app, hF.out, ← hG, List.take_of_length_le (by rw [Array.length_toList]; exact Nat.le_refl _)]
          replace hfin := Lib.hid hfin; replace hG := Lib.hid hG
          go_wp2_with (at_builtin; refine app_str rfl _ _ rfl w1.heap.size rfl d.t hS.out rfl hsz hbz ?_; intro v6 w6 hv6 hg6)
          have hb6 := hb.out.grown hg6 hbz (fun k e => (hS.out.lt k e).1)
          exact ⟨⟨i + 1, by go_num, by rw [hfin.out], by omega, Lib.hid (by rw [htk.out]; exact hv6), Lib.hid hb6⟩, hmeas⟩
    · have hi1 : ¬ (i : Int) < L.length := by omega
      have he : i = L.length := by omega
      subst he
      have hS' := hS.out
      rw [List.take_length] at hS' hF
      obtain ⟨T, hT2⟩ : ∃ T, textsOf L = T := ⟨_, rfl⟩
      rw [hT2] at hS' hF
      have hba' := hba.out
      rw [hT2] at hba'
      have hTl : T.length ≤ 1048576 := by have := textsOf_len L; rw [hT2] at this; omega
      have hTs : (⟨T.toArray⟩ : ByteArray).size ≤ 17179869184 := by show T.toArray.size ≤ _; simp; omega
      have hbs := fun W' => l8_bare SS W' hSz
      have hbt := fun W' => l8_bare ⟨T.toArray⟩ W' hTs
      rw [hba'] at hbs
      have hT3 : (⟨T.toArray⟩ : ByteArray).data.toList = T := rfl
      rw [hT3] at hbt
      subst hva
      have hlenT : (textsOf (L.take L.length)).length = T.length := by rw [List.take_length, hT2]
      obtain ⟨B, hB⟩ : ∃ B : ByteArray, (⟨(bareL T).toArray⟩ : ByteArray) = B := ⟨_, rfl⟩
      rw [hB] at hbs hbt
      rw [hlenT] at hS' ⊢
      replace hlenT := Lib.hid hlenT; replace hB := Lib.hid hB; replace hbs := Lib.hid hbs; replace hbt := Lib.hid hbt; replace hS' := Lib.hid hS'; replace hba' := Lib.hid hba'; replace hT2 := Lib.hid hT2; replace hF := Lib.hid hF
      clear hS hT3
      go_wp2_with fail
      refine wp_region_late (fun w' => Buf w' w1.heap.size (.slice va T.length vc) T) 5 (by kernel_rfl) (by first | exact hS'.out | (dsimp only; exact hS'.out)) (fun hHeld => ?_)
      refine wpLate_take (i := 0) (v := ?_) rfl (by kernel_rfl) (fun _ _ _ h => h) (Or.inl ⟨by rfl, ?_⟩) hHeld ?_
      rotate_left
      · (intro w hSw; (try dsimp only at hSw); go_simp; try with_reducible rfl)
      simp only [Act.put, List.setIfInBounds_toArray, List.set_cons_zero, List.set_cons_succ]
      refine wpLate_take (i := 2) (v := ?_) rfl (by kernel_rfl) (fun _ _ _ h => h) (Or.inl ⟨by rfl, ?_⟩) hHeld ?_
      rotate_left
      · (intro w hSw; (try dsimp only at hSw); go_simp; try with_reducible rfl)
      simp only [Act.put, List.setIfInBounds_toArray, List.set_cons_zero, List.set_cons_succ]
      refine wpLate_take (i := 3) (v := .string ⟨T.toArray⟩) rfl (by kernel_rfl) (fun _ _ _ h => h) (Or.inl ⟨by rfl, ?_⟩) hHeld ?_
      · intro w' hSw
        have hcv := buf_string hSw
        go_simp
      simp only [Act.put, List.setIfInBounds_toArray, List.set_cons_zero, List.set_cons_succ]
      refine wpLate_step (i := 1) (by kernel_rfl) rfl (fun K hK => ?_)
      go_simp
      go_at_call 31
      refine (hbs.out _).mono ?_
      rintro e w2 ⟨rfl, b2⟩
      have hS2 := hS'.out.below (show Below wr.heap.size wr w2 from ((Below.refl _ wr).drew).trans b2)
      refine hK.out _ _ ?_ (fun hHeld => ?_)
      · first | exact hS2 | (dsimp only; exact hS2)
      clear hK K
      try simp only [Act.put, List.setIfInBounds_toArray, List.set_cons_zero, List.set_cons_succ]
      refine wpLate_step (i := 4) (by kernel_rfl) rfl (fun K hK => ?_)
      go_simp
      go_at_call 31
      refine (hbt.out _).mono ?_
      rintro e w3 ⟨rfl, b3⟩
      refine hK.out _ _ ?_ (fun hHeld => ?_)
      · first | exact hS2.below b3 | (dsimp only; exact hS2.below b3)
      clear hK K
      try simp only [Act.put, List.setIfInBounds_toArray, List.set_cons_zero, List.set_cons_succ]
      refine wpLate_last (by kernel_rfl) rfl (by kernel_rfl) (fun K hK => ?_)
      go_simp
      refine hK.out _ _ ?_
      clear hK K
      have hb3 := Lib.hid (hb0.out.trans ((((Below.refl _ wr).drew).trans b2 |>.trans (b3.mono b2.size)).mono hb0.out.size))
      clear b2 b3 hS2 hHeld hbs hbt hb0
      have hfr : F = false → Fair SS.data.toList := fun e => hfa.out (fun c hc e2 => by
        have h1 := hF.out
        rw [e] at h1
        rw [hT2.out] at hc
        unfold feedsB at h1
        have h2 : 0 < T.count 10 := List.count_pos_iff.2 (e2 ▸ hc)
        rw [decide_eq_true h2] at h1; cases h1)
      replace hfr := Lib.hid hfr
      cases F
      · have hfr2 := Lib.hid (hfr.out rfl)
        clear hfa hF hfr
        go_wp2_with fail
        go_loop [12, 13] (fun iv ev => ∃ i : Nat, iv = .int .i64 i ∧ i ≤ SS.size ∧ ev = ev) (fun iv _ => SS.size - (RowKit.intOf iv).toNat)
        case atStart => exact ⟨0, rfl, by omega, rfl⟩
        case round =>
          obtain ⟨i, rfl, hi, _⟩ := hrel
          by_cases hlt : i < SS.size
          · have hi1' : (i : Int) < SS.size := by omega
            have hi2' : (0 : Int) ≤ i := by omega
            have wi : IntKind.i64.wrap ((i : Int) + 1) = i + 1 := IntWalk.i64_in _ (by omega)
            have hmeas : SS.size - (RowKit.intOf (.int .i64 ((i : Int) + 1))).toNat < SS.size - (RowKit.intOf (.int .i64 (i : Int))).toNat := by simp [RowKit.intOf]; omega
            have hfb := Lib.hid (fair_byte SS hfr2.out i hlt)
            by_cases hn : i + 1 = SS.size
            · have hE : ((i : Int) + 1 == (SS.size : Int)) = true := by simp; omega
              replace hn := Lib.hid hn
              rcases (show i = 0 ∨ i = 1 ∨ 1 < i by omega) with hm | hm | hm
              · have hi0 : ((i : Int) == 0) = true := by simp; omega
                replace hm := Lib.hid hm
                go_wp2_with fail
                all_goals first
                  | exact ⟨⟨i + 1, by go_num, by omega, trivial⟩, hmeas⟩
                  | (exfalso; have h1 := hfb.out; simp only [beq_iff_eq, beq_eq_false_iff_ne, ne_eq] at *; omega)
              · have hi0 : ((i : Int) == 0) = false := by simp; omega
                have hi1g : ¬ (1 : Int) < i := by omega
                replace hm := Lib.hid hm
                go_wp2_with fail
                all_goals first
                  | exact ⟨⟨i + 1, by go_num, by omega, trivial⟩, hmeas⟩
                  | (exfalso; have h1 := hfb.out; simp only [beq_iff_eq, beq_eq_false_iff_ne, ne_eq] at *; omega)
              · have hi0 : ((i : Int) == 0) = false := by simp; omega
                have hi1g : (1 : Int) < i := by omega
                have hm1 : (i : Int) - 1 < SS.size := by omega
                have hm2 : (0 : Int) ≤ (i : Int) - 1 := by omega
                have hm3 : (i : Int) - 2 < SS.size := by omega
                have hm4 : (0 : Int) ≤ (i : Int) - 2 := by omega
                replace hm := Lib.hid hm
                go_wp2_with fail
                all_goals first
                  | exact ⟨⟨i + 1, by go_num, by omega, trivial⟩, hmeas⟩
                  | (exfalso; have h1 := hfb.out; simp only [beq_iff_eq, beq_eq_false_iff_ne, ne_eq] at *; omega)
            · have hE : ((i : Int) + 1 == (SS.size : Int)) = false := by simp; omega
              have hE1 : (i : Int) + 1 < SS.size := by omega
              have hE2 : (0 : Int) ≤ (i : Int) + 1 := by omega
              replace hn := Lib.hid hn
              rcases (show i = 0 ∨ i = 1 ∨ 1 < i by omega) with hm | hm | hm
              · have hi0 : ((i : Int) == 0) = true := by simp; omega
                replace hm := Lib.hid hm
                go_wp2_with fail
                all_goals first
                  | exact ⟨⟨i + 1, by go_num, by omega, trivial⟩, hmeas⟩
                  | (exfalso; have h1 := hfb.out; simp only [beq_iff_eq, beq_eq_false_iff_ne, ne_eq] at *; omega)
              · have hi0 : ((i : Int) == 0) = false := by simp; omega
                have hi1g : ¬ (1 : Int) < i := by omega
                replace hm := Lib.hid hm
                go_wp2_with fail
                all_goals first
                  | exact ⟨⟨i + 1, by go_num, by omega, trivial⟩, hmeas⟩
                  | (exfalso; have h1 := hfb.out; simp only [beq_iff_eq, beq_eq_false_iff_ne, ne_eq] at *; omega)
              · have hi0 : ((i : Int) == 0) = false := by simp; omega
                have hi1g : (1 : Int) < i := by omega
                have hm1 : (i : Int) - 1 < SS.size := by omega
                have hm2 : (0 : Int) ≤ (i : Int) - 1 := by omega
                have hm3 : (i : Int) - 2 < SS.size := by omega
                have hm4 : (0 : Int) ≤ (i : Int) - 2 := by omega
                replace hm := Lib.hid hm
                go_wp2_with fail
                all_goals first
                  | exact ⟨⟨i + 1, by go_num, by omega, trivial⟩, hmeas⟩
                  | (exfalso; have h1 := hfb.out; simp only [beq_iff_eq, beq_eq_false_iff_ne, ne_eq] at *; omega)
          · have hi1 : ¬ (i : Int) < SS.size := by omega
            go_wp2_with fail
            refine (haw.out _ hb3.out).mono ?_
            rintro e w4 ⟨rfl, b4⟩
            go_wp2_with fail
            go_ret
            exact ⟨rfl, hb3.out.trans (b4.mono hb3.out.size)⟩
      · clear hfr hfa hF
        go_wp2_with fail
        refine (haw.out _ hb3.out).mono ?_
        rintro e w4 ⟨rfl, b4⟩
        go_wp2_with fail
        go_ret
        exact ⟨rfl, hb3.out.trans (b4.mono hb3.out.size)⟩
end Go.Proofs.YtphcmbdmkhmfbaaDoor
