/- WholeIdle: blocks without Breaks change nothing: the plain law. -/
import Derived.Test.YtphcmbdmkhmfbaaDoorAwake8
namespace Go.Proofs.YtphcmbdmkhmfbaaDoor
open Go.RowKit Go.Lib
set_option linter.unusedVariables false
set_option linter.unusedSimpArgs false
def pickV (c n : Int) : Int := (if c < 0 then -(c + 1) else c) % n
def idleB (M : List DocV) (i : Nat) : DocV := match M[i % M.length]? with
  | some m => bgD (pickV m.n 1001) m.e
  | none => bgD 0 false
def idleStep (M : List DocV) (i : Nat) (d : DocV) : List DocV := if d.k = 1 ∨ d.k = 2 then [idleB M i, d, kD 6, kD 7, kD 7] else [d]
def idle (M : List DocV) : Nat → List DocV → List DocV
  | _, [] => []
  | i, d :: r => idleStep M i d ++ idle M (i + 1) r
theorem idle_snoc (M : List DocV) : ∀ (L : List DocV) (i : Nat) (d : DocV), idle M i (L ++ [d]) = idle M i L ++ idleStep M (i + L.length) d
  | [], i, d => by simp [idle]
  | c :: r, i, d => by simp only [List.cons_append, idle, idle_snoc M r (i + 1) d, List.append_assoc, List.length_cons]; rw [show i + 1 + r.length = i + (r.length + 1) by omega]
theorem idleB_right (M : List DocV) (i : Nat) : rightB (idleB M i) = true ∧ (idleB M i).k = 6 := by
  unfold idleB
  split
  · rename_i m h
    refine ⟨?_, rfl⟩
    have h1 : 0 ≤ pickV m.n 1001 ∧ pickV m.n 1001 ≤ 1000 := by unfold pickV; omega
    simp [rightB, bgD, h1, ByteArray.size]
  · exact ⟨by decide, rfl⟩
theorem right67 : rightB (kD 6) = true ∧ rightB (kD 7) = true := by decide
theorem formAt_cons (d : DocV) (r : List DocV) (i : Nat) (o : Int) : formAt (d :: r) i o = if rightB d = false ∨ (d.k = 7 ∧ o = 0) then (i : Int) else formAt r (i + 1) (o + opens d) := rfl
theorem formAt_shift : ∀ (B : List DocV) (i j : Nat) (o : Int), formAt B i o = -1 ↔ formAt B j o = -1
  | [], i, j, o => by unfold formAt; split <;> omega
  | d :: r, i, j, o => by
    unfold formAt; split
    · omega
    · exact formAt_shift r _ _ _
/-- They may be, or may not be, alike. -/
theorem idle_form (M : List DocV) : ∀ (L : List DocV) (i a b : Nat) (o : Int), 0 ≤ o → (formAt (idle M i L) a o = -1 ↔ formAt L b o = -1)
  | [], i, a, b, o, h0 => formAt_shift [] a b o
  | d :: r, i, a, b, o, h0 => by
    by_cases k : d.k = 1 ∨ d.k = 2
    · have hop : opens d = 0 := by unfold opens; rw [if_neg (by omega), if_neg (by omega)]
      have hs : idle M i (d :: r) = idleB M i :: d :: kD 6 :: kD 7 :: kD 7 :: idle M (i + 1) r := by simp [idle, idleStep, k]
      rw [hs]
      have hb := idleB_right M i
      have hb1 : opens (idleB M i) = 1 := by simp [opens, hb.2]
      rw [formAt_cons, if_neg (by rw [hb.1, hb.2]; simp)]
      rw [hb1]
      by_cases hr : rightB d = true
      · rw [formAt_cons d (kD 6 :: _), if_neg (by rw [hr]; simp; omega), hop]
        rw [formAt_cons (kD 6), if_neg (by rw [right67.1]; simp [kD])]
        rw [formAt_cons (kD 7) (kD 7 :: _), if_neg (by rw [right67.2]; simp [kD]; unfold opens; simp; omega)]
        rw [formAt_cons (kD 7) (idle _ _ _), if_neg (by rw [right67.2]; simp [kD]; unfold opens; simp; omega)]
        rw [show o + 1 + 0 + opens (kD 6) + opens (kD 7) + opens (kD 7) = o by simp [opens, kD]; omega]
        rw [formAt_cons d r, if_neg (by rw [hr]; simp; omega), hop]
        simpa using idle_form M r (i + 1) _ _ o h0
      · have hr' : rightB d = false := by simpa using hr
        rw [formAt_cons d (kD 6 :: _), if_pos (.inl hr'), formAt_cons d r, if_pos (.inl hr')]
        omega
    · have hs : idle M i (d :: r) = d :: idle M (i + 1) r := by simp [idle, idleStep, k]
      rw [hs]
      rw [formAt_cons, formAt_cons]
      by_cases hc : rightB d = false ∨ d.k = 7 ∧ o = 0
      · rw [if_pos hc, if_pos hc]; omega
      · rw [if_neg hc, if_neg hc]
        exact idle_form M r (i + 1) _ _ _ (by have : ¬ (d.k = 7 ∧ o = 0) := fun e => hc (.inr e)
                                              unfold opens; split <;> (try split) <;> omega)
theorem wide6 (d : DocV) (h : d.k = 6 ∨ d.k = 7) : wideAs 1048576 d = 0 := by unfold wideAs; rw [if_neg (by omega), if_neg (by omega), if_neg (by omega), if_neg (by omega)]
theorem wNext_end (s : Ws) (h : s.lv ≠ []) : (wNext (kD 7) s).bh = s.bh ∧ (wNext (kD 7) s).lv = (s.bh, s.bh) :: s.lv ∧ (wNext (kD 7) s).out = 0 :: s.out := by
  cases hl : s.lv with
  | nil => exact absurd hl h
  | cons p q => rw [wNext_cons _ s p.1 p.2 q hl, wide6 _ (.inr rfl)]; simp [wLv, kD]
theorem wNext_begin (d : DocV) (hd : d.k = 6) (s : Ws) (e x : Int) (q : List (Int × Int)) (h : s.lv = (e, x) :: q) : (wNext d s).bh = s.bh ∧ (wNext d s).lv = q ∧ (wNext d s).out = (s.bh - e) :: s.out := by
  rw [wNext_cons _ s e x q h, wide6 _ (.inl hd)]; simp [wLv, hd]
theorem wNext_text (d : DocV) (hd : d.k = 1 ∨ d.k = 2) (s : Ws) (h : s.lv ≠ []) : (wNext d s).bh = s.bh + wideAs 1048576 d ∧ (wNext d s).lv = s.lv ∧ (wNext d s).out = 0 :: s.out := by
  cases hl : s.lv with
  | nil => exact absurd hl h
  | cons p q => rw [wNext_cons _ s p.1 p.2 q hl]
                have h7 : ¬ d.k = 7 := by omega
                have h6 : ¬ d.k = 6 := by omega
                have h3 : ¬ d.k = 3 := by omega
                have h4 : ¬ d.k = 4 := by omega
                have h5 : ¬ d.k = 5 := by omega
                simp [wLv, h7, h6, h3, h4, h5]
def depthOk (L : List DocV) : Prop := (∀ d ∈ L, rightB d = true) ∧ ∀ j, 0 ≤ - depth (L.drop j)
theorem depthOk.tail {d : DocV} {r : List DocV} (h : depthOk (d :: r)) : depthOk r := ⟨fun x hx => h.1 x (by simp [hx]), fun j => by simpa using h.2 (j + 1)⟩
theorem depthOk.lv {L : List DocV} (h : depthOk L) : (wRun L).lv ≠ [] := fun e => by
  have h1 := (wRun_ok L h.1 h.2).2.1
  have h2 := h.2 0
  rw [e] at h1
  simp at h1 h2; omega
/-- What stands behind is as wide. -/
theorem idle_wide (M : List DocV) : ∀ (L : List DocV) (i : Nat), depthOk L → (wRun (idle M i L)).bh = (wRun L).bh ∧ (wRun (idle M i L)).lv = (wRun L).lv
  | [], i, _ => ⟨rfl, rfl⟩
  | d :: r, i, h => by
    obtain ⟨h1, h2⟩ := idle_wide M r (i + 1) h.tail
    have hne := h.tail.lv
    by_cases k : d.k = 1 ∨ d.k = 2
    · have hs : idle M i (d :: r) = idleB M i :: d :: kD 6 :: kD 7 :: kD 7 :: idle M (i + 1) r := by simp [idle, idleStep, k]
      rw [hs]
      obtain ⟨S, hS⟩ : ∃ S, wRun (idle M (i + 1) r) = S := ⟨_, rfl⟩
      rw [hS] at h1 h2
      have e : wRun (idleB M i :: d :: kD 6 :: kD 7 :: kD 7 :: idle M (i + 1) r) = wNext (idleB M i) (wNext d (wNext (kD 6) (wNext (kD 7) (wNext (kD 7) S)))) := by rw [← hS]; rfl
      rw [e, show wRun (d :: r) = wNext d (wRun r) from rfl]
      have a1 := wNext_end S (by rw [h2]; exact hne)
      have a2 := wNext_end (wNext (kD 7) S) (by rw [a1.2.1]; simp)
      have a3 := wNext_begin (kD 6) rfl (wNext (kD 7) (wNext (kD 7) S)) _ _ _ a2.2.1
      have a4 := wNext_text d k (wNext (kD 6) (wNext (kD 7) (wNext (kD 7) S))) (by rw [a3.2.1, a1.2.1]; simp)
      have a5 := wNext_begin (idleB M i) (idleB_right M i).2 (wNext d (wNext (kD 6) (wNext (kD 7) (wNext (kD 7) S)))) _ _ _ (a4.2.1.trans (a3.2.1.trans a1.2.1))
      have b := wNext_text d k (wRun r) hne
      refine ⟨?_, ?_⟩
      · rw [a5.1, a4.1, a3.1, a2.1, a1.1, b.1, h1]
      · rw [a5.2.1, b.2.1, h2]
    · have hs : idle M i (d :: r) = d :: idle M (i + 1) r := by simp [idle, idleStep, k]
      rw [hs, show wRun (d :: r) = wNext d (wRun r) from rfl, show wRun (d :: idle M (i + 1) r) = wNext d (wRun (idle M (i + 1) r)) from rfl]
      obtain ⟨e, x, q, hl⟩ : ∃ e x q, (wRun r).lv = (e, x) :: q := by
        cases hl : (wRun r).lv with
        | nil => exact absurd hl hne
        | cons p q => exact ⟨p.1, p.2, q, rfl⟩
      rw [wNext_cons d _ e x q hl, wNext_cons d _ e x q (h2.trans hl), h1]
      exact ⟨rfl, rfl⟩
/-- What a piece prints hangs on the innermost block only where it is a Break, a Begin or an End, or ends the line. -/
theorem idle_print (W : Int) (b1 b2 b3 : Bk) (r : List Bk) (d bg : DocV) (hb : bg.k = 6) (k : d.k = 1 ∨ d.k = 2) (x1 x2 x3 x4 x5 x : Int) (X : List DocV) (xs : List Int) (q : Ps) (hq : q.st = b1 :: r) :
    prGo W (bg :: d :: kD 6 :: kD 7 :: kD 7 :: X) (x1 :: x2 :: x3 :: x4 :: x5 :: xs) q = prGo W X xs (prStep W b1 r d x q) := by
  obtain ⟨p, st, pr, em⟩ := q
  simp only at hq
  subst hq
  have h6 : ¬ d.k = 6 := by omega
  have h7 : ¬ d.k = 7 := by omega
  have h5 : ¬ d.k = 5 := by omega
  have h3 : ¬ d.k = 3 := by omega
  have h4 : ¬ d.k = 4 := by omega
  rcases k with k | k
  · simp [prGo, prStep, hb, k, kD]
  · cases hf : p.f <;> simp [prGo, prStep, hb, k, kD, hf, endsB]
theorem idle_go (W : Int) (M : List DocV) : ∀ (L : List DocV) (i : Nat), depthOk L → ∀ (q : Ps), prGo W (idle M i L) (wRun (idle M i L)).out q = prGo W L (wRun L).out q
  | [], i, _, q => rfl
  | d :: r, i, h, q => by
    have ih := idle_go W M r (i + 1) h.tail
    obtain ⟨h1, h2⟩ := idle_wide M r (i + 1) h.tail
    have hne := h.tail.lv
    by_cases k : d.k = 1 ∨ d.k = 2
    · have hs : idle M i (d :: r) = idleB M i :: d :: kD 6 :: kD 7 :: kD 7 :: idle M (i + 1) r := by simp [idle, idleStep, k]
      rw [hs]
      obtain ⟨S, hS⟩ : ∃ S, wRun (idle M (i + 1) r) = S := ⟨_, rfl⟩
      rw [hS] at h1 h2 ih
      have e : wRun (idleB M i :: d :: kD 6 :: kD 7 :: kD 7 :: idle M (i + 1) r) = wNext (idleB M i) (wNext d (wNext (kD 6) (wNext (kD 7) (wNext (kD 7) S)))) := by rw [← hS]; rfl
      rw [e, show wRun (d :: r) = wNext d (wRun r) from rfl]
      have a1 := wNext_end S (by rw [h2]; exact hne)
      have a2 := wNext_end (wNext (kD 7) S) (by rw [a1.2.1]; simp)
      have a3 := wNext_begin (kD 6) rfl (wNext (kD 7) (wNext (kD 7) S)) _ _ _ a2.2.1
      have a4 := wNext_text d k (wNext (kD 6) (wNext (kD 7) (wNext (kD 7) S))) (by rw [a3.2.1, a1.2.1]; simp)
      have a5 := wNext_begin (idleB M i) (idleB_right M i).2 (wNext d (wNext (kD 6) (wNext (kD 7) (wNext (kD 7) S)))) _ _ _ (a4.2.1.trans (a3.2.1.trans a1.2.1))
      have b := wNext_text d k (wRun r) hne
      rw [a5.2.2, a4.2.2, a3.2.2, a2.2.2, a1.2.2, b.2.2]
      cases hq : q.st with
      | nil => simp only [prGo, hq]
      | cons b1 st =>
        rw [idle_print W b1 b1 b1 st d (idleB M i) (idleB_right M i).2 k _ _ _ _ _ 0 _ _ q hq, ih]
        conv => rhs; unfold prGo
        rw [hq]
    · have hs : idle M i (d :: r) = d :: idle M (i + 1) r := by simp [idle, idleStep, k]
      rw [hs, show wRun (d :: r) = wNext d (wRun r) from rfl, show wRun (d :: idle M (i + 1) r) = wNext d (wRun (idle M (i + 1) r)) from rfl]
      obtain ⟨e, x, qq, hl⟩ : ∃ e x q, (wRun r).lv = (e, x) :: q := by
        cases hl : (wRun r).lv with
        | nil => exact absurd hl hne
        | cons p q => exact ⟨p.1, p.2, q, rfl⟩
      rw [wNext_cons d _ e x qq hl, wNext_cons d _ e x qq (h2.trans hl), h1]
      unfold prGo
      cases hq : q.st with
      | nil => rfl
      | cons b1 st => exact ih _
theorem idle_res (W : Int) (M L : List DocV) : prRes W (idle M 0 L) = prRes W L := by
  unfold prRes
  by_cases hW : W < 1 ∨ 4096 < W
  · rw [if_pos hW, if_pos hW]
  · rw [if_neg hW, if_neg hW]
    have hf := idle_form M L 0 0 0 0 (Int.le_refl _)
    by_cases h : formAt L 0 0 = -1
    · rw [if_neg (by simp [hf.2 h]), if_neg (by simp [h])]
      have hok : depthOk L := ⟨(formAt_ok L 0 0 (Int.le_refl _) h).1, fun j => formAt_tail L 0 0 j (Int.le_refl _) h⟩
      have := idle_go W M L 0 hok ps0
      unfold prAll
      rw [this]
    · rw [if_pos (fun e => h (hf.1 e)), if_pos h]
end Go.Proofs.YtphcmbdmkhmfbaaDoor
