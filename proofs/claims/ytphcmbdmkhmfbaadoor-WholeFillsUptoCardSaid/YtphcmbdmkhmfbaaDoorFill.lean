/- WholeFills: words in lines: the plain law. -/
import Derived.Test.YtphcmbdmkhmfbaaDoorIdle
namespace Go.Proofs.YtphcmbdmkhmfbaaDoor
open Go.RowKit Go.Lib
set_option linter.unusedVariables false
set_option linter.unusedSimpArgs false
/-- A word, and how many blanks stand ahead of it. -/
abbrev Wd := Nat × List UInt8
def tlP : List Wd → List DocV
  | [] => []
  | (g, w) :: r => gpD g :: txD ⟨w.toArray⟩ :: tlP r
def layP : List Wd → List DocV
  | [] => []
  | (_, w) :: r => txD ⟨w.toArray⟩ :: tlP r
def total : List Wd → Nat
  | [] => 0
  | (g, w) :: r => g + w.length + total r
def sumP : List Wd → Nat
  | [] => 0
  | (_, w) :: r => w.length + total r
def fillT (n : Int) (inn : Nat) : Nat → List Wd → List UInt8
  | _, [] => []
  | a, (g, w) :: r => if n < (a : Int) + g + w.length then 10 :: List.replicate inn 32 ++ w ++ fillT n inn (inn + w.length) r else List.replicate g 32 ++ w ++ fillT n inn (a + g + w.length) r
def fillP (n : Int) (inn : Nat) : List Wd → List UInt8
  | [] => []
  | (_, w) :: r => w ++ fillT n inn w.length r
theorem size_arr (w : List UInt8) : (⟨w.toArray⟩ : ByteArray).size = w.length := by show w.toArray.size = _; simp
theorem toList_arr (w : List UInt8) : (⟨w.toArray⟩ : ByteArray).data.toList = w := rfl
/-- Words are letters alone. -/
def LetP (P : List Wd) : Prop := ∀ x ∈ P, x.2 ≠ [] ∧ x.1 ≤ 1000 ∧ x.2.length ≤ 65535 ∧ ∀ c ∈ x.2, 33 ≤ c.toNat ∧ c.toNat ≤ 126
theorem LetP.tail {x : Wd} {P : List Wd} (h : LetP (x :: P)) : LetP P := fun y hy => h y (by simp [hy])
theorem wideF_tx (w : List UInt8) : wideF (txD ⟨w.toArray⟩) = w.length := by unfold wideF txD; simp only [if_true]; rw [size_arr]
theorem wideF_gp (g : Int) : wideF (gpD g) = g := by simp [wideF, gpD]
/-- What hangs on the Breaks. -/
def outP : List Wd → List Int
  | [] => []
  | (g, w) :: r => ((g : Int) + w.length) :: 0 :: outP r
theorem wtail (E : List DocV) (q : List (Int × Int)) (hE : (wRunF E).bh = 0 ∧ (wRunF E).lv = (0, 0) :: q) : ∀ (P : List Wd), (wRunF (tlP P ++ E)).bh = total P ∧ (wRunF (tlP P ++ E)).lv = (0, (total P : Int)) :: q ∧ (wRunF (tlP P ++ E)).out = outP P ++ (wRunF E).out
  | [] => by simp [tlP, total, outP, hE.1, hE.2]
  | (g, w) :: r => by
    obtain ⟨h1, h2, h3⟩ := wtail E q hE r
    have e : wRunF (tlP ((g, w) :: r) ++ E) = wNextG (wideF (gpD g)) (gpD g) (wNextG (wideF (txD ⟨w.toArray⟩)) (txD ⟨w.toArray⟩) (wRunF (tlP r ++ E))) := rfl
    rw [e, wideF_tx, wideF_gp]
    unfold wNextG
    rw [h2]
    simp only [h1, h3, outP, total, wLv, txD, gpD]
    simp
    omega
theorem col_true (l : List UInt8) (x y : Nat) : (⟨l, true, x, y, 0⟩ : Pn).col = y := by simp [Pn.col]
/-- One word. -/
theorem go_word (W : Int) (b : Bk) (st : List Bk) (g : Nat) (w : List UInt8) (hw : w ≠ []) (hg : g ≤ 1000) (hbi : 0 ≤ b.i ∧ b.i ≤ 1000) (X : List DocV) (xs : List Int) (l : List UInt8) (x a : Nat) (wide : Int) :
    ∃ x', prGoF W (gpD g :: txD ⟨w.toArray⟩ :: X) (wide :: 0 :: xs) ⟨⟨l, true, x, a, 0⟩, b :: st, true, false⟩ =
      (if (!b.f && (b.e || decide (W - a < wide))) = true then prGoF W X xs ⟨⟨l ++ (10 :: List.replicate b.i.toNat 32 ++ w), true, x', b.i.toNat + w.length, 0⟩, b :: st, true, false⟩
       else prGoF W X xs ⟨⟨l ++ (List.replicate g 32 ++ w), true, x', a + g + w.length, 0⟩, b :: st, true, false⟩) := by
  have hz : (⟨w.toArray⟩ : ByteArray).size ≠ 0 := by rw [size_arr]; exact fun e => hw (List.length_eq_zero_iff.1 e)
  have hb1 : 0 ≤ b.i ∧ b.i ≤ 1048576 := by omega
  have hg1 : (0 : Int) ≤ (g : Int) ∧ (g : Int) ≤ 1048576 := by omega
  by_cases hc : (!b.f && (b.e || decide (W - a < wide))) = true
  · refine ⟨b.i.toNat, ?_⟩
    rw [if_pos hc]
    have h1 : prStepF W b st (gpD g) wide ⟨⟨l, true, x, a, 0⟩, b :: st, true, false⟩ = ⟨⟨l ++ [10], false, b.i.toNat, 0, 0⟩, b :: st, true, false⟩ := by
      simp [prStepF, prStep, gpD, endsB, col_true, hc, dPn, dStep, hb1]
    have h2 : prStepF W b st (txD ⟨w.toArray⟩) 0 ⟨⟨l ++ [10], false, b.i.toNat, 0, 0⟩, b :: st, true, false⟩ = ⟨⟨l ++ (10 :: List.replicate b.i.toNat 32 ++ w), true, b.i.toNat, b.i.toNat + w.length, 0⟩, b :: st, true, false⟩ := by
      simp only [prStepF, txD, if_true, txF]
      rw [if_neg hz, size_arr]
      simp
    rw [prGoF]
    simp only
    rw [h1, prGoF]
    simp only
    rw [h2]
  · refine ⟨x, ?_⟩
    rw [if_neg hc]
    have hc' : (!b.f && (b.e || decide (W - a < wide))) = false := by simpa using hc
    have h1 : prStepF W b st (gpD g) wide ⟨⟨l, true, x, a, 0⟩, b :: st, true, false⟩ = ⟨⟨l, true, x, a, g⟩, b :: st, true, false⟩ := by
      have he : endsB W b (gpD g) wide (⟨l, true, x, a, 0⟩ : Pn).col = false := by rw [col_true]; simp only [endsB, gpD]; simpa using hc'
      simp only [prStepF, prStep, gpD] at he ⊢
      simp [he, dPn, dStep, hg1]
    have h2 : prStepF W b st (txD ⟨w.toArray⟩) 0 ⟨⟨l, true, x, a, g⟩, b :: st, true, false⟩ = ⟨⟨l ++ (List.replicate g 32 ++ w), true, x, a + g + w.length, 0⟩, b :: st, true, false⟩ := by
      simp only [prStepF, txD, if_true, txF]
      rw [if_neg hz, size_arr]
      simp
    rw [prGoF]
    simp only
    rw [h1, prGoF]
    simp only
    rw [h2]
/-- All words behind the first one. -/
theorem go_tail (W : Int) (b : Bk) (st : List Bk) (hbi : 0 ≤ b.i ∧ b.i ≤ 1000) (E : List DocV) (xs : List Int) (n : Int) (K : Nat → Nat → Prop)
    (hK : ∀ a g (m t : Nat), K a (g + m + t) → ((!b.f && (b.e || decide (W - a < (g : Int) + m))) = decide (n < (a : Int) + g + m)) ∧ (n < (a : Int) + g + m → K (b.i.toNat + m) t) ∧ (¬ n < (a : Int) + g + m → K (a + g + m) t)) :
    ∀ (P : List Wd), LetP P → ∀ (l : List UInt8) (x a : Nat), K a (total P) → ∃ x' a', prGoF W (tlP P ++ E) (outP P ++ xs) ⟨⟨l, true, x, a, 0⟩, b :: st, true, false⟩ = prGoF W E xs ⟨⟨l ++ fillT n b.i.toNat a P, true, x', a', 0⟩, b :: st, true, false⟩
  | [], _, l, x, a, _ => ⟨x, a, by simp [tlP, outP, fillT]⟩
  | (g, w) :: r, hP, l, x, a, hk => by
    obtain ⟨hw, hg, _, _⟩ := hP (g, w) (by simp)
    obtain ⟨x', h⟩ := go_word W b st g w hw hg hbi (tlP r ++ E) (outP r ++ xs) l x a ((g : Int) + w.length)
    have e : prGoF W (tlP ((g, w) :: r) ++ E) (outP ((g, w) :: r) ++ xs) ⟨⟨l, true, x, a, 0⟩, b :: st, true, false⟩ = prGoF W (gpD g :: txD ⟨w.toArray⟩ :: (tlP r ++ E)) (((g : Int) + w.length) :: 0 :: (outP r ++ xs)) ⟨⟨l, true, x, a, 0⟩, b :: st, true, false⟩ := rfl
    rw [e, h]
    obtain ⟨k1, k2, k3⟩ := hK a g w.length (total r) (by simpa [total] using hk)
    rw [k1]
    by_cases hc : n < (a : Int) + g + w.length
    · rw [if_pos (by simpa using hc)]
      obtain ⟨x2, a2, h2⟩ := go_tail W b st hbi E xs n K hK r hP.tail (l ++ (10 :: List.replicate b.i.toNat 32 ++ w)) x' (b.i.toNat + w.length) (k2 hc)
      refine ⟨x2, a2, ?_⟩
      rw [h2]
      simp only [fillT, if_pos hc, List.append_assoc, List.cons_append, List.nil_append]
    · rw [if_neg (by simpa using hc)]
      obtain ⟨x2, a2, h2⟩ := go_tail W b st hbi E xs n K hK r hP.tail (l ++ (List.replicate g 32 ++ w)) x' (a + g + w.length) (k3 hc)
      refine ⟨x2, a2, ?_⟩
      rw [h2]
      simp only [fillT, if_neg hc, List.append_assoc]
theorem fine_lay (P : List Wd) (h : LetP P) : ∀ d ∈ tlP P, FineD d := by
  induction P with
  | nil => simp [tlP]
  | cons x r ih =>
    obtain ⟨g, w⟩ := x
    intro d hd
    simp only [tlP, List.mem_cons] at hd
    rcases hd with rfl | rfl | hd
    · intro c hc; simp [gpD] at hc
    · intro c hc
      have := (h (g, w) (by simp)).2.2.2 c hc
      exact ⟨by omega, this.2⟩
    · exact ih h.tail d hd
theorem fine_tx (x : Wd) (P : List Wd) (h : LetP (x :: P)) : FineD (txD ⟨x.2.toArray⟩) := fun c hc => by
  have := (h x (by simp)).2.2.2 c hc
  exact ⟨by omega, this.2⟩
theorem fine_simple (d : DocV) (h : d.t = ⟨#[]⟩) : FineD d := fun c hc => by rw [h] at hc; simp at hc
/-- Outside of all blocks. -/
theorem fill_plain (n : Int) (P : List Wd) (h : LetP P) : prAll n (layP P) = fillP n 0 P := by
  cases P with
  | nil => rfl
  | cons x P =>
    obtain ⟨g, w⟩ := x
    have hfine : ∀ d ∈ layP ((g, w) :: P), FineD d := by
      intro d hd
      simp only [layP, List.mem_cons] at hd
      rcases hd with rfl | hd
      · exact fine_tx (g, w) P h
      · exact fine_lay P h.tail d hd
    rw [prAll_fine n _ hfine]
    obtain ⟨h1, h2, h3⟩ := wtail [] [] ⟨rfl, rfl⟩ P
    simp only [List.append_nil] at h1 h2 h3
    have ho : (wRunF (layP ((g, w) :: P))).out = 0 :: outP P := by
      rw [show wRunF (layP ((g, w) :: P)) = wNextG (wideF (txD ⟨w.toArray⟩)) (txD ⟨w.toArray⟩) (wRunF (tlP P)) from rfl]
      unfold wNextG; rw [h2]; simp [h3, txD, wRunF]
    unfold prAllF
    rw [ho]
    have hw := (h (g, w) (by simp)).1
    have hz : (⟨w.toArray⟩ : ByteArray).size ≠ 0 := by rw [size_arr]; exact fun e => hw (List.length_eq_zero_iff.1 e)
    have hs : prStepF n ⟨0, false, false⟩ [] (txD ⟨w.toArray⟩) 0 ⟨⟨[], false, 0, 0, 0⟩, [⟨0, false, false⟩], false, false⟩ = ⟨⟨w, true, 0, w.length, 0⟩, [⟨0, false, false⟩], true, false⟩ := by
      simp only [prStepF, txD, if_true, txF]
      rw [if_neg hz, size_arr]
      simp
    have e : prGoF n (layP ((g, w) :: P)) (0 :: outP P) ps0 = prGoF n (tlP P) (outP P) (prStepF n ⟨0, false, false⟩ [] (txD ⟨w.toArray⟩) 0 ⟨⟨[], false, 0, 0, 0⟩, [⟨0, false, false⟩], false, false⟩) := rfl
    rw [e, hs]
    obtain ⟨x', a', ht⟩ := go_tail n ⟨0, false, false⟩ [] (by simp) [] [] n (fun _ _ => True) (fun a g m t _ => ⟨by simp; omega, fun _ => trivial, fun _ => trivial⟩) P h.tail w 0 w.length trivial
    simp only [List.append_nil] at ht
    rw [ht]
    simp [prGoF, fillP]
/-- In a block. -/
theorem fill_block (n : Int) (hn : 0 ≤ n) (inn : Nat) (hin : inn ≤ 1000) (ev : Bool) (P : List Wd) (h : LetP P) :
    prAll n (bgD inn ev :: layP P ++ [kD 7]) = (if ev then (if (sumP P : Int) ≤ n then fillP (sumP P) inn P else fillP (-1) inn P) else fillP n inn P) := by
  have hinn : min ((0 : Int) + (inn : Int)) 1000 = inn := by omega
  cases P with
  | nil =>
    rw [prAll_fine n _ (by intro d hd; simp [layP] at hd; rcases hd with rfl | rfl <;> exact fine_simple _ rfl)]
    cases ev <;> simp [layP, fillP, prAllF, wRunF, wNextG, prGoF, prStepF, prStep, bgD, kD, wideF, wLv, ps0]
  | cons x P =>
    obtain ⟨g, w⟩ := x
    have hfine : ∀ d ∈ bgD inn ev :: layP ((g, w) :: P) ++ [kD 7], FineD d := by
      intro d hd
      simp only [layP, List.cons_append, List.mem_cons, List.mem_append, List.mem_nil_iff, or_false] at hd
      rcases hd with rfl | rfl | hd | rfl
      · exact fine_simple _ rfl
      · exact fine_tx (g, w) P h
      · exact fine_lay P h.tail d hd
      · exact fine_simple _ rfl
    rw [prAll_fine n _ hfine]
    have hE : (wRunF [kD 7]).bh = 0 ∧ (wRunF [kD 7]).lv = (0, 0) :: [(0, 0)] := by decide
    have hEo : (wRunF [kD 7]).out = [0] := by decide
    obtain ⟨h1, h2, h3⟩ := wtail [kD 7] [(0, 0)] hE P
    have hw := (h (g, w) (by simp)).1
    have ho : (wRunF (bgD inn ev :: layP ((g, w) :: P) ++ [kD 7])).out = ((sumP ((g, w) :: P) : Nat) : Int) :: 0 :: (outP P ++ [0]) := by
      rw [show wRunF (bgD inn ev :: layP ((g, w) :: P) ++ [kD 7]) = wNextG (wideF (bgD inn ev)) (bgD inn ev) (wNextG (wideF (txD ⟨w.toArray⟩)) (txD ⟨w.toArray⟩) (wRunF (tlP P ++ [kD 7]))) from rfl]
      rw [wideF_tx]
      unfold wNextG
      rw [h2]
      simp only [wLv, txD, bgD, h1, h3, hEo, sumP]
      simp
      omega
    unfold prAllF
    rw [ho]
    have hz : (⟨w.toArray⟩ : ByteArray).size ≠ 0 := by rw [size_arr]; exact fun e => hw (List.length_eq_zero_iff.1 e)
    obtain ⟨S, hS⟩ : ∃ S : Nat, sumP ((g, w) :: P) = S := ⟨_, rfl⟩
    have hSe : S = w.length + total P := by rw [← hS]; rfl
    rw [hS]
    obtain ⟨b, hb⟩ : ∃ b : Bk, b = ⟨inn, ev, decide ((S : Int) ≤ n)⟩ := ⟨_, rfl⟩
    have hs0 : prStepF n ⟨0, false, false⟩ [] (bgD inn ev) S ⟨⟨[], false, 0, 0, 0⟩, [⟨0, false, false⟩], false, false⟩ = ⟨⟨[], false, 0, 0, 0⟩, b :: [⟨0, false, false⟩], false, false⟩ := by
      rw [hb]
      simp [prStepF, prStep, bgD, Pn.col]
      omega
    have hs1 : prStepF n b [⟨0, false, false⟩] (txD ⟨w.toArray⟩) 0 ⟨⟨[], false, 0, 0, 0⟩, b :: [⟨0, false, false⟩], false, false⟩ = ⟨⟨w, true, 0, w.length, 0⟩, b :: [⟨0, false, false⟩], true, false⟩ := by
      simp only [prStepF, txD, if_true, txF]
      rw [if_neg hz, size_arr]
      simp
    have e : prGoF n (bgD inn ev :: layP ((g, w) :: P) ++ [kD 7]) ((S : Int) :: 0 :: (outP P ++ [0])) ps0 = prGoF n (layP ((g, w) :: P) ++ [kD 7]) (0 :: (outP P ++ [0])) (prStepF n ⟨0, false, false⟩ [] (bgD inn ev) S ⟨⟨[], false, 0, 0, 0⟩, [⟨0, false, false⟩], false, false⟩) := rfl
    rw [e, hs0]
    have e2 : prGoF n (layP ((g, w) :: P) ++ [kD 7]) (0 :: (outP P ++ [0])) ⟨⟨[], false, 0, 0, 0⟩, b :: [⟨0, false, false⟩], false, false⟩ = prGoF n (tlP P ++ [kD 7]) (outP P ++ [0]) (prStepF n b [⟨0, false, false⟩] (txD ⟨w.toArray⟩) 0 ⟨⟨[], false, 0, 0, 0⟩, b :: [⟨0, false, false⟩], false, false⟩) := rfl
    rw [e2, hs1]
    have hbi : b.i.toNat = inn := by rw [hb]; simp
    have hb0 : 0 ≤ b.i ∧ b.i ≤ 1000 := by rw [hb]; simp; omega
    have hend : ∀ (N : Int) (K : Nat → Nat → Prop) (hK : ∀ a g (m t : Nat), K a (g + m + t) → ((!b.f && (b.e || decide (n - a < (g : Int) + m))) = decide (N < (a : Int) + g + m)) ∧ (N < (a : Int) + g + m → K (b.i.toNat + m) t) ∧ (¬ N < (a : Int) + g + m → K (a + g + m) t)), K w.length (total P) →
        (prGoF n (tlP P ++ [kD 7]) (outP P ++ [0]) ⟨⟨w, true, 0, w.length, 0⟩, b :: [⟨0, false, false⟩], true, false⟩).p.l = fillP N inn ((g, w) :: P) := fun N K hK k0 => by
      obtain ⟨x', a', ht⟩ := go_tail n b [⟨0, false, false⟩] hb0 [kD 7] [0] N K hK P h.tail w 0 w.length k0
      rw [ht, hbi]
      simp [prGoF, fillP, prStepF, prStep, kD]
    by_cases hf : (S : Int) ≤ n
    · have hbf : b.f = true := by rw [hb]; simpa using hf
      cases ev
      · simp only [Bool.false_eq_true, if_false]
        refine hend n (fun a t => (a : Int) + t ≤ n) (fun a g m t hk => ?_) (by omega)
        simp only [hbf, Bool.not_true, Bool.false_and]
        push_cast at hk
        exact ⟨by symm; rw [decide_eq_false_iff_not]; omega, fun hc => by omega, fun _ => by push_cast; omega⟩
      · simp only [if_true]
        rw [if_pos hf]
        refine hend S (fun a t => (a : Int) + t ≤ S) (fun a g m t hk => ?_) (by omega)
        simp only [hbf, Bool.not_true, Bool.false_and]
        push_cast at hk
        exact ⟨by symm; rw [decide_eq_false_iff_not]; omega, fun hc => by omega, fun _ => by push_cast; omega⟩
    · have hbf : b.f = false := by rw [hb]; simpa using hf
      have hbe : b.e = ev := by rw [hb]
      cases ev
      · simp only [Bool.false_eq_true, if_false]
        refine hend n (fun _ _ => True) (fun a g m t _ => ⟨?_, fun _ => trivial, fun _ => trivial⟩) trivial
        simp only [hbf, hbe, Bool.not_false, Bool.true_and, Bool.false_or]
        rw [decide_eq_decide]; omega
      · simp only [if_true]
        rw [if_neg hf]
        refine hend (-1) (fun _ _ => True) (fun a g m t _ => ⟨?_, fun _ => trivial, fun _ => trivial⟩) trivial
        simp only [hbf, hbe, Bool.not_false, Bool.true_and, Bool.true_or]
        symm; rw [decide_eq_true_iff]; omega
end Go.Proofs.YtphcmbdmkhmfbaaDoor
