/- Layouts of which all texts are of letters and blanks alone: what is printed, reckoned without tables. Plain Lean. -/
import Derived.Test.YtphcmbdmkhmfbaaDoorWhole
import Derived.Test.YtphcmbdmkhmfbaaDoorInk
namespace Go.Proofs.YtphcmbdmkhmfbaaDoor
open Go.RowKit Go.Lib
set_option linter.unusedVariables false
set_option linter.unusedSimpArgs false
def FineD (d : DocV) : Prop := ∀ c ∈ d.t.data.toList, Fine c
theorem colAfter_fine (t : ByteArray) (h : ∀ c ∈ t.data.toList, Fine c) (y : Int) : colAfter t y = y + t.size := by
  have hs : t.data.toList.length = t.size := Array.length_toList
  have h10 := fun c hc => not10 (h c hc)
  have h1 := nl_none t h10 t.size (Nat.le_refl _)
  have h2 := from_app t [] t.data.toList rfl h10 (.inl rfl) t.size (by omega)
  simp only [List.length_nil, Nat.zero_add] at h2
  unfold colAfter
  rw [h1, h2, if_pos rfl, List.drop_zero, wid_fine _ h]
  omega
def wideF (d : DocV) : Int := if d.k = 1 then d.t.size else if d.k = 2 then 1 else if d.k = 3 then d.b else if d.k = 4 ∨ d.k = 5 then 1048576 else 0
theorem wideAs_fine (d : DocV) (h : FineD d) : wideAs 1048576 d = wideF d := by
  have hs : d.t.data.toList.length = d.t.size := Array.length_toList
  have h1 := nl_none d.t (fun c hc => not10 (h c hc)) d.t.size (Nat.le_refl _)
  unfold wideAs wideF
  rw [h1, if_pos rfl, wid_fine _ h]
  split
  · omega
  · rfl
/-- wRun with widths of one's own. -/
def wNextG (V : Int) (d : DocV) (s : Ws) : Ws :=
  match s.lv with
  | [] => ⟨s.bh + V, [], 0 :: s.out⟩
  | (e, x) :: q => ⟨s.bh + V, wLv d s.bh (s.bh + V) e x q, (if d.k = 6 then s.bh - e else if d.k = 3 then s.bh + V - x else 0) :: s.out⟩
def wRunF : List DocV → Ws
  | [] => ⟨0, [(0, 0)], []⟩
  | d :: r => wNextG (wideF d) d (wRunF r)
theorem wRun_fine : ∀ (L : List DocV), (∀ d ∈ L, FineD d) → wRun L = wRunF L
  | [], _ => rfl
  | d :: r, h => by
    rw [show wRun (d :: r) = wNextG (wideAs 1048576 d) d (wRun r) from rfl, wideAs_fine d (h d (by simp)), wRun_fine r (fun x hx => h x (by simp [hx]))]; rfl
/-- A text. -/
def txF (t : ByteArray) (p : Pn) : Pn := if t.size = 0 then p else ⟨p.l ++ ((if p.f then [] else List.replicate p.x 32) ++ List.replicate p.z 32 ++ t.data.toList), true, p.x, (if p.f then p.y else p.x) + p.z + t.size, 0⟩
theorem dPn_text (t : ByteArray) (h : ∀ c ∈ t.data.toList, Fine c) (p : Pn) : dPn ⟨1, false, t, 0⟩ p = txF t p := by
  obtain ⟨l, f, x, y, z⟩ := p
  unfold dPn dStep txF
  simp only [if_true]
  by_cases ht : t.size = 0
  · simp [ht]
  · simp only [ht, if_false]
    rw [colAfter_fine t h]
    congr 1
    · cases f <;> simp [padOf]
    · cases f <;> simp <;> omega
def prStepF (W : Int) (b : Bk) (r : List Bk) (d : DocV) (wide : Int) (q : Ps) : Ps :=
  if d.k = 1 then ⟨txF d.t q.p, b :: r, true, false⟩ else prStep W b r d wide q
theorem prStep_fine (W : Int) (b : Bk) (r : List Bk) (d : DocV) (h : FineD d) (wide : Int) (q : Ps) : prStep W b r d wide q = prStepF W b r d wide q := by
  unfold prStepF
  by_cases k1 : d.k = 1
  · rw [if_pos k1]; unfold prStep; rw [if_neg (by omega), if_neg (by omega), if_neg (by omega), if_pos k1, dPn_text _ h]
  · rw [if_neg k1]
def prGoF (W : Int) : List DocV → List Int → Ps → Ps
  | d :: L, x :: xs, q => match q.st with
    | b :: r => prGoF W L xs (prStepF W b r d x q)
    | [] => q
  | _, _, q => q
theorem prGo_fine (W : Int) : ∀ (L : List DocV) (xs : List Int) (q : Ps), (∀ d ∈ L, FineD d) → prGo W L xs q = prGoF W L xs q
  | [], xs, q, h => by unfold prGo prGoF; rfl
  | d :: L, [], q, h => by unfold prGo prGoF; rfl
  | d :: L, x :: xs, q, h => by
    unfold prGo prGoF
    cases q.st with
    | nil => rfl
    | cons b r =>
      simp only
      rw [prStep_fine W b r d (h d (by simp))]
      exact prGo_fine W L xs _ (fun x hx => h x (by simp [hx]))
def prAllF (W : Int) (L : List DocV) : List UInt8 := (prGoF W L (wRunF L).out ps0).p.l
theorem prAll_fine (W : Int) (L : List DocV) (h : ∀ d ∈ L, FineD d) : prAll W L = prAllF W L := by
  unfold prAll prAllF; rw [prGo_fine W L _ _ h, wRun_fine L h]
theorem prRes_fine (W : Int) (L : List DocV) (h : ∀ d ∈ L, FineD d) (h1 : ¬ (W < 1 ∨ 4096 < W)) (h2 : formAt L 0 0 = -1) (s : List UInt8) (hs : prAllF W L = s) : prRes W L = .tuple #[.string ⟨s.toArray⟩, .int .i64 0] := by
  unfold prRes; rw [if_neg h1, if_neg (by simp [h2]), prAll_fine W L h, hs]
def fineB (d : DocV) : Bool := d.t.data.toList.all fun c => decide (32 ≤ c.toNat ∧ c.toNat ≤ 126)
theorem fineB_ok (L : List DocV) (h : L.all fineB = true) : ∀ d ∈ L, FineD d := fun d hd c hc => by
  have h1 := List.all_eq_true.1 h d hd
  have h2 := List.all_eq_true.1 h1 c hc
  simpa [Fine] using h2
def txD (s : ByteArray) : DocV := ⟨1, s, 0, 0, false⟩
def gpD (n : Int) : DocV := ⟨3, ⟨#[]⟩, n, 0, false⟩
def kD (k : Nat) : DocV := ⟨k, ⟨#[]⟩, 0, 0, false⟩
def bgD (n : Int) (e : Bool) : DocV := ⟨6, ⟨#[]⟩, 0, n, e⟩
def ex1 : List DocV := [bgD 2 false, txD ⟨#[97, 97, 97]⟩, gpD 1, txD ⟨#[98, 98, 98]⟩, gpD 1, txD ⟨#[99, 99, 99]⟩, kD 7]
def ex2 : List DocV := [bgD 2 true, txD ⟨#[97, 97, 97]⟩, gpD 1, txD ⟨#[98, 98, 98]⟩, gpD 1, txD ⟨#[99, 99, 99]⟩, kD 7]
def ex3 : List DocV := [txD ⟨#[97]⟩, kD 4, kD 5, kD 5, txD ⟨#[98]⟩]
theorem res1 : prRes 10 ex1 = .tuple #[.string ⟨#[97, 97, 97, 32, 98, 98, 98, 10, 32, 32, 99, 99, 99]⟩, .int .i64 0] := prRes_fine 10 ex1 (fineB_ok _ (by decide +kernel)) (by decide) (by decide +kernel) [97, 97, 97, 32, 98, 98, 98, 10, 32, 32, 99, 99, 99] (by decide +kernel)
theorem res2 : prRes 10 ex2 = .tuple #[.string ⟨#[97, 97, 97, 10, 32, 32, 98, 98, 98, 10, 32, 32, 99, 99, 99]⟩, .int .i64 0] := prRes_fine 10 ex2 (fineB_ok _ (by decide +kernel)) (by decide) (by decide +kernel) [97, 97, 97, 10, 32, 32, 98, 98, 98, 10, 32, 32, 99, 99, 99] (by decide +kernel)
theorem res3 : prRes 10 ex3 = .tuple #[.string ⟨#[97, 10, 10, 98]⟩, .int .i64 0] := prRes_fine 10 ex3 (fineB_ok _ (by decide +kernel)) (by decide) (by decide +kernel) [97, 10, 10, 98] (by decide +kernel)
theorem res4 : prRes 0 [] = .tuple #[.string ⟨#[]⟩, .int .i64 1] := by unfold prRes; rw [if_pos (.inl (by decide))]
theorem res5 : prRes 10 [kD 7] = .tuple #[.string ⟨#[]⟩, .int .i64 70] := by unfold prRes; rw [if_neg (by decide), if_pos (by decide +kernel)]
end Go.Proofs.YtphcmbdmkhmfbaaDoor
