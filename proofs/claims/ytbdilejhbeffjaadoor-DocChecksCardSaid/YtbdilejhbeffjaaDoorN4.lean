/- DocParses: its printed form comes to true, in plain Lean. What package doc prints is read as the layout, in plain Lean. DocBack: its printed form comes to true, in plain Lean. Conditions: the pieces' kinds are not below zero. -/
import Derived.Test.YtbdilejhbeffjaaDoorN3
import Derived.Test.YtbdilejhbeffjaaDoorPDoc9
import Derived.Test.YtbdilejhbeffjaaDoorN2
section
namespace Go.Proofs.YtbdilejhbeffjaaDoor
open Go.RowKit Go.Lib Go.Proofs.YtbdilejhbeffjaaDoorW.PrintWords
open PDoc
set_option linter.unusedVariables false
set_option linter.unusedSimpArgs false
theorem same_l0 (m : List S33) (hm : m.length ≤ 4611686018427387904) (d : Nat) : ∀ (i K : Nat), i + d = m.length → d < K → colophonref07_Same.l0 K m m (i : Int) = some true := by
  induction d with
  | zero =>
    intro i K h1 h2
    obtain ⟨K, rfl⟩ : ∃ k, K = k + 1 := ⟨K - 1, by omega⟩
    rw [colophonref07_Same.l0, if_neg (by omega)]
  | succ d ih =>
    intro i K h1 h2
    obtain ⟨K, rfl⟩ : ∃ k, K = k + 1 := ⟨K - 1, by omega⟩
    have e2 : Hid (wrap64 ((i : Int) + 1) = ((i + 1 : Nat) : Int)) := Lib.hid (by rw [w64 (by omega) (by omega)]; omega)
    rw [colophonref07_Same.l0, if_pos (by omega), if_pos (by omega), if_pos (by omega), if_neg (by simp), e2.out]
    exact ih (i + 1) K (by omega) (by omega)
theorem same_self (m : List S33) (hm : m.length ≤ 4611686018427387904) (K : Nat) (hK : m.length < K) : colophonref07_Same.f K m m = some true := by
  unfold colophonref07_Same.f
  rw [if_pos rfl]
  exact same_l0 m hm m.length 0 K (by omega) hK
theorem dp_l1 (m : List S33) (hm : m.length ≤ 4194304) (d : Nat) : ∀ (x : List S33) (i K : Nat), i + d = 9 → x.length + d ≤ 4194400 → m.length + d + 1 < K → colophonlaw07_DocParses.l1 K x m m (i : Int) = some true := by
  induction d with
  | zero =>
    intro x i K h1 h2 h3
    obtain ⟨K, rfl⟩ : ∃ k, K = k + 1 := ⟨K - 1, by omega⟩
    rw [colophonlaw07_DocParses.l1, if_neg (by omega), same_self m (by omega) K (by omega)]
    rfl
  | succ d ih =>
    intro x i K h1 h2 h3
    obtain ⟨K, rfl⟩ : ∃ k, K = k + 1 := ⟨K - 1, by omega⟩
    have e2 : Hid (wrap64 ((i : Int) + 1) = ((i + 1 : Nat) : Int)) := Lib.hid (by rw [w64 (by omega) (by omega)]; omega)
    rw [colophonlaw07_DocParses.l1, if_pos (by omega), if_pos (by omega), e2.out]
    exact ih _ (i + 1) K (by omega) (by rw [List.length_append, List.length_singleton]; omega) (by omega)
theorem dp_l0 (m : List S33) (hm : m.length ≤ 4194304) (d : Nat) : ∀ (x : List S33) (i K : Nat), i + d = x.length → x.length ≤ 4194304 → m.length + d + 20 < K → colophonlaw07_DocParses.l0 K x m m (i : Int) = some true := by
  induction d with
  | zero =>
    intro x i K h1 h2 h3
    obtain ⟨K, rfl⟩ : ∃ k, K = k + 1 := ⟨K - 1, by omega⟩
    rw [colophonlaw07_DocParses.l0, if_neg (by omega)]
    exact dp_l1 m hm 9 x 0 K (by omega) (by omega) (by omega)
  | succ d ih =>
    intro x i K h1 h2 h3
    obtain ⟨K, rfl⟩ : ∃ k, K = k + 1 := ⟨K - 1, by omega⟩
    have e2 : Hid (wrap64 ((i : Int) + 1) = ((i + 1 : Nat) : Int)) := Lib.hid (by rw [w64 (by omega) (by omega)]; omega)
    rw [colophonlaw07_DocParses.l0, if_pos (by omega), if_pos (by omega), e2.out]
    exact ih _ (i + 1) K (by rw [List.length_set]; omega) (by rw [List.length_set]; omega) (by omega)
theorem parses_f (s : ByteArray) : ∃ k, colophonlaw07_DocParses.f k s = some true := by
  obtain ⟨N, hN⟩ : ∃ N, N = 20 * s.size + 10000000 := ⟨_, rfl⟩
  refine ⟨N, ?_⟩
  -- both parses
  have both : ∃ L e m, doc_Parse.f N s = some (L, e, m) ∧ colophonref07_Parse.f N s = some (L, e, m) ∧ L.length ≤ 4194304 := by
    unfold doc_Parse.f colophonref07_Parse.f
    by_cases hs : s.size ≤ 4194304
    · rw [if_neg (by omega), if_neg (by omega)]
      obtain ⟨L, e, m, hp, h1, h2⟩ := parse_tot s.size s [] N (Nat.le_refl _) (by simpa using hs) (fun d hd => by cases hd) (by simp; omega)
      have hr := rparse s hs s.size s [] [] N N (by simp) (Nat.le_refl _) (fun d hd => by cases hd) (by simp) (by omega) (by omega)
      refine ⟨L, e, m, hp, ?_, ?_⟩
      · rw [← hp, ← hr]; rfl
      · by_cases he : e = 0
        · obtain ⟨R, r1, r2, r3, r4⟩ := h2 he
          rw [List.nil_append] at r1
          have := linesB_ge R
          rw [r3, size_len] at this
          rw [r1]; omega
        · rw [h1 he]; simp
    · rw [if_pos (by omega), if_pos (by omega)]
      exact ⟨_, _, _, rfl, rfl, by simp⟩
  obtain ⟨L, e, m, h1, h2, h3⟩ := both
  obtain ⟨K, hK⟩ : ∃ K, N = K + 1 := ⟨N - 1, by omega⟩
  have hK' : 9000000 ≤ K := by omega
  rw [hK] at h1 h2 ⊢
  clear hK hN
  unfold colophonlaw07_DocParses.f
  rw [h1, Option.bind_some, Option.bind_some, h2, Option.bind_some, awake7_at (by omega), Option.bind_some, if_pos rfl]
  simp only
  rw [if_pos trivial, if_pos trivial, if_pos trivial, if_pos trivial, same_self L (by omega) _ (by omega), Option.bind_some]
  rw [colophonlaw07_DocParses.j0, if_neg (by simp)]
  exact dp_l0 L h3 L.length L 0 K (by omega) h3 (by omega)
theorem parses_c (s : ByteArray) (W : World) (hT : Wrds W) : Calls Tryd.prog 10 #[.string s] W fun e w' => e = .returned (.bool true) ∧ Below W.heap.size W w' := by
  obtain ⟨k, hk⟩ := parses_f s
  exact colophonlaw07_DocParses.calls k s true W hk hT
end Go.Proofs.YtbdilejhbeffjaaDoor
end
section
namespace Go.Proofs.YtbdilejhbeffjaaDoor
open Go.RowKit Go.Lib Go.Proofs.YtbdilejhbeffjaaDoorW.PrintWords
open PDoc
set_option linter.unusedVariables false
set_option linter.unusedSimpArgs false
theorem chkGo_right (l : List S33) : ∀ o i, (chkGo l o i).1 = 0 → ∀ d ∈ l, rightD d = true := by
  induction l with
  | nil => intro o i _ d hd; cases hd
  | cons x r ih =>
    intro o i h d hd
    unfold chkGo at h
    by_cases c : rightD x = true ∧ ¬ (x.f0 = 7 ∧ o = 0)
    · rw [if_pos c] at h
      rcases List.mem_cons.1 hd with rfl | hd
      · exact c.1
      · exact ih _ _ h d hd
    · rw [if_neg c] at h; simp at h
theorem chkV_good (l : List S33) (hz : ∀ d ∈ l, 0 ≤ d.f0) (h : (chkV l).1 = 0) : (∀ d ∈ l, Good d) ∧ l.length ≤ 2097152 := by
  unfold chkV at h
  by_cases c : 2097152 < l.length
  · rw [if_pos c] at h; simp at h
  · rw [if_neg c] at h
    exact ⟨fun d hd => ⟨hz d hd, chkGo_right l 0 0 h d hd⟩, by omega⟩
theorem chkGo_two (l : List S33) : ∀ o i, (chkGo l o i).1 = 0 → chkGo l o i = (0, 0) := by
  induction l with
  | nil => intro o i h; unfold chkGo at h ⊢; by_cases c : 0 < o; · rw [if_pos c] at h; simp at h
           · rw [if_neg c]
  | cons x r ih =>
    intro o i h
    unfold chkGo at h ⊢
    by_cases c : rightD x = true ∧ ¬ (x.f0 = 7 ∧ o = 0)
    · rw [if_pos c] at h ⊢; exact ih _ _ h
    · rw [if_neg c] at h; simp at h
theorem chkV_two (l : List S33) (h : (chkV l).1 = 0) : chkV l = (0, 0) := by
  unfold chkV at h ⊢
  by_cases c : 2097152 < l.length
  · rw [if_pos c] at h; simp at h
  · rw [if_neg c] at h ⊢; exact chkGo_two l 0 0 h
/-- The text of a layout is read as the layout. -/
theorem parse_back (L : List S33) : ∀ (s : ByteArray) (acc : List S33) (K : Nat), (∀ d ∈ L, Good d) → (∀ d ∈ acc, Good d) → s.data.toList = linesB L → s.size + acc.length ≤ 4194304 → (chkV (acc ++ L)).1 = 0 → 3 * L.length + 2 * acc.length + 5 < K →
    doc_Parse.l0 K s acc = some (acc ++ L, 0, 0) := by
  induction L with
  | nil =>
    intro s acc K hg ha hs hz hc hK
    obtain ⟨K, rfl⟩ : ∃ m, K = m + 1 := ⟨K - 1, by omega⟩
    have hn : s.toList = ([] : List UInt8) := by rw [Lib.toList_data, hs]; rfl
    rw [List.append_nil] at hc ⊢
    rw [doc_Parse.l0, if_pos hn, check_f acc (fun d hd => (ha d hd).a) K (by simp at hK; omega), Option.bind_some, if_pos hc]
  | cons d r ih =>
    intro s acc K hg ha hs hz hc hK
    simp only [List.length_cons] at hK
    obtain ⟨K, rfl⟩ : ∃ m, K = m + 1 := ⟨K - 1, by omega⟩
    obtain ⟨hten, hpos⟩ := LB_ten d (hg d (by simp))
    have hl : s.data.toList = LB d ++ 10 :: linesB r := by rw [hs]; unfold linesB; rw [List.flatMap_cons, lnB_LB]; simp
    obtain ⟨x, y, hcut, hx, hy, hxz, hyz⟩ := cut_ten s (by omega) (LB d) (linesB r) hl hten
    have hne : ¬ s.toList = ([] : List UInt8) := by rw [Lib.toList_data, hl]; intro h; simp at h
    rw [doc_Parse.l0, if_neg hne, hcut, Option.bind_some]
    simp only
    rw [read_line d (hg d (by simp)) x hx (by omega), Option.bind_some]
    simp only
    have hh := ih y (acc ++ [d]) K (fun z hz => hg z (List.mem_cons_of_mem _ hz)) (fun z hz => by
      rcases List.mem_append.1 hz with h | h
      · exact ha z h
      · simp only [List.mem_singleton] at h; rw [h]; exact hg d (by simp)) hy (by rw [List.length_append, List.length_singleton]; omega) (by rw [List.append_assoc]; exact hc) (by rw [List.length_append, List.length_singleton]; omega)
    rw [if_pos trivial, if_pos trivial, if_pos (by omega)]
    rw [List.append_assoc] at hh
    exact hh
end Go.Proofs.YtbdilejhbeffjaaDoor
end
section
namespace Go.Proofs.YtbdilejhbeffjaaDoor
open Go.RowKit Go.Lib Go.Proofs.YtbdilejhbeffjaaDoorW.PrintWords
open PDoc
set_option linter.unusedVariables false
set_option linter.unusedSimpArgs false
/-- How many line ends bytes hold. -/
def tens (l : List UInt8) : Nat := l.countP (fun b => b == 10)
theorem tens_none (l : List UInt8) (h : (10 : UInt8) ∉ l) : tens l = 0 := by
  unfold tens
  rw [List.countP_eq_zero]
  intro a ha hh
  simp at hh
  exact h (hh ▸ ha)
theorem tens_lines (L : List S33) (hg : ∀ d ∈ L, Good d) : tens (linesB L) = L.length := by
  induction L with
  | nil => rfl
  | cons d r ih =>
    have hl : linesB (d :: r) = LB d ++ (10 :: linesB r) := by unfold linesB; rw [List.flatMap_cons, lnB_LB]; simp
    have h1 := tens_none _ (LB_ten d (hg d (by simp))).1
    have h2 := ih (fun z hz => hg z (List.mem_cons_of_mem _ hz))
    unfold tens at *
    rw [hl, List.countP_append, h1, List.countP_cons, h2]
    simp
theorem back_l0 (l0 : List S33) (s : ByteArray) (hs : s.size ≤ 4194304) (a b : Int) (m : List S33) (e n : Int) (d : Nat) : ∀ (c i K : Nat), i + d = s.size → c ≤ i → d < K →
    colophonlaw07_DocBack.l0 K l0 s a b m e n (c : Int) (i : Int) = colophonlaw07_DocBack.l0 (K - d) l0 s a b m e n ((c + tens (s.data.toList.drop i) : Nat) : Int) ((s.size : Nat) : Int) := by
  induction d with
  | zero =>
    intro c i K h1 h2 h3
    rw [List.drop_eq_nil_of_le (by rw [size_len]; omega), show i = s.size by omega]
    rfl
  | succ d ih =>
    intro c i K h1 h2 h3
    obtain ⟨K, rfl⟩ : ∃ k, K = k + 1 := ⟨K - 1, by omega⟩
    have e1 : Hid (wrap64 ((c : Int) + 1) = ((c + 1 : Nat) : Int)) := Lib.hid (by rw [w64 (by omega) (by omega)]; omega)
    have e2 : Hid (wrap64 ((i : Int) + 1) = ((i + 1 : Nat) : Int)) := Lib.hid (by rw [w64 (by omega) (by omega)]; omega)
    have hi : i < s.data.toList.length := by rw [size_len]; omega
    have hd : s.data.toList.drop i = s.data.toList[i] :: s.data.toList.drop (i + 1) := List.drop_eq_getElem_cons hi
    have hb : bt s (i : Int) = ((s.data.toList[i].toNat : Nat) : Int) := by
      obtain ⟨b0, e0⟩ := at_app (P := []) (Q := s.data.toList) (s := s) (by simp) i hi
      rw [List.getD_eq_getElem?_getD, List.getElem?_eq_getElem hi] at e0
      simpa using e0
    rw [colophonlaw07_DocBack.l0, if_pos (by omega), if_pos (by omega), hb, e1.out, e2.out, show K + 1 - (d + 1) = K - d by omega]
    by_cases c10 : s.data.toList[i] = 10
    · rw [if_pos (by rw [c10]; rfl), ih (c + 1) (i + 1) K (by omega) (by omega) (by omega)]
      congr 2
      unfold tens
      rw [hd, List.countP_cons, if_pos (by rw [c10]; rfl)]; omega
    · rw [if_neg (fun h => c10 (UInt8.toNat_inj.1 (by show s.data.toList[i].toNat = 10; omega))), ih c (i + 1) K (by omega) (by omega) (by omega)]
      congr 2
      unfold tens
      rw [hd, List.countP_cons, if_neg (by simpa using c10)]; omega
theorem printAny_f (l : List S33) (hz : ∀ d ∈ l, 0 ≤ d.f0) : doc_Print.f l = if (chkV l).1 = 0 then (if 4194304 < (linesB l).length then some (⟨#[]⟩, 2) else some (⟨(linesB l).toArray⟩, 0)) else some (⟨#[]⟩, (chkV l).1) := by
  unfold doc_Print.f
  rw [check_f l hz _ (by omega), Option.bind_some]
  by_cases c : (chkV l).1 = 0
  · obtain ⟨hg, hl⟩ := chkV_good l hz c
    rw [if_pos c, if_pos c, if_pos ⟨hl, List.all_eq_true.2 fun d hd => (good_ok (hg d hd)).2.2.1⟩]
  · rw [if_neg c, if_neg c]
theorem noT : (⟨#[]⟩ : ByteArray).toList = ([] : List UInt8) := by rw [Lib.toList_data]
theorem back_f (l : List S33) (hz : ∀ d ∈ l, 0 ≤ d.f0) : ∃ k, colophonlaw07_DocBack.f k l = some true := by
  refine ⟨20 * l.length + 10000000, ?_⟩
  unfold colophonlaw07_DocBack.f
  rw [printAny_f l hz, check_f l hz _ (by omega)]
  by_cases c : (chkV l).1 = 0
  · obtain ⟨hg, hl⟩ := chkV_good l hz c
    have h2 := chkV_two l c
    rw [if_pos c]
    by_cases cl : 4194304 < (linesB l).length
    · rw [if_pos cl, Option.bind_some, Option.bind_some, if_neg (by decide), awake7_at (by omega), Option.bind_some, if_pos rfl, h2]
      simp only
      rw [if_pos noT, if_neg (by decide), if_pos trivial]
      rfl
    · rw [if_neg cl, Option.bind_some, Option.bind_some, if_pos rfl]
      have hsz : (⟨(linesB l).toArray⟩ : ByteArray).size = (linesB l).length := by rw [← size_len]
      unfold doc_Parse.f
      rw [if_neg (by simp only [hsz]; omega)]
      simp only
      rw [parse_back l ⟨(linesB l).toArray⟩ [] _ hg (fun d hd => by cases hd) (by simp) (by rw [hsz]; simp; omega) (by simpa using c) (by simp; omega), Option.bind_some]
      have hb := back_l0 l ⟨(linesB l).toArray⟩ (by rw [hsz]; omega) (chkV l).1 (chkV l).2 ([] ++ l) 0 0 (⟨(linesB l).toArray⟩ : ByteArray).size 0 0 (20 * l.length + 10000000) (by omega) (by omega) (by rw [hsz]; omega)
      simp only
      rw [show ((0 : Nat) : Int) = 0 from rfl] at hb
      rw [hb]
      obtain ⟨K, hK⟩ : ∃ K, 20 * l.length + 10000000 - (⟨(linesB l).toArray⟩ : ByteArray).size = K + 1 := ⟨20 * l.length + 10000000 - (⟨(linesB l).toArray⟩ : ByteArray).size - 1, by rw [hsz]; omega⟩
      have hK2 : l.length + 200 < K := by rw [hsz] at hK; omega
      rw [hK, colophonlaw07_DocBack.l0, if_neg (by omega), awake7_at (by omega), Option.bind_some, if_pos rfl, h2]
      simp only
      rw [if_pos trivial, if_pos trivial, if_pos trivial, if_pos trivial, if_pos (by rw [List.drop_zero]; have := tens_lines l hg; simp only [Nat.zero_add]; rw [this]), List.nil_append, same_self l (by omega) K (by omega)]
      rfl
  · rw [if_neg c, Option.bind_some, Option.bind_some]
    simp only
    rw [if_neg c, awake7_at (by omega), Option.bind_some, if_pos rfl, if_pos noT, if_pos trivial]
theorem back_c (A0 : Option Addr) (c0 : Nat) (l : List S33) (w : World) (hr0 : Kd.C k33 w A0 l.length l) (hc0 : l.length ≤ c0) (hz : ∀ d ∈ l, 0 ≤ d.f0) (hT : Wrds w) : Calls Tryd.prog 11 #[.slice A0 l.length c0] w fun e w' => e = .returned (.bool true) ∧ Below w.heap.size w w' := by
  obtain ⟨k, hk⟩ := back_f l hz
  exact colophonlaw07_DocBack.calls k A0 c0 l true w hr0 hc0 hk hT
/-- The reference's text of a layout is the program's. -/
theorem rprint_l0 (L : List S33) (hL : L.length ≤ 2097152) (hg : ∀ d ∈ L, Good d) (r : List S33) : ∀ (i K : Nat) (B : List UInt8), i ≤ L.length → L.drop i = r → B.length ≤ 4194304 → 70000 + r.length < K →
    colophonref07_Print.l0 K L (nums B) (i : Int) = if 4194304 < (B ++ linesB r).length then some (⟨#[]⟩, 2) else some (⟨(B ++ linesB r).toArray⟩, 0) := by
  induction r with
  | nil =>
    intro i K B h0 h1 h2 h3
    obtain ⟨K, rfl⟩ : ∃ m, K = m + 1 := ⟨K - 1, by omega⟩
    have hi : L.length ≤ i := List.drop_eq_nil_iff.1 h1
    have hn : linesB ([] : List S33) = [] := rfl
    rw [hn, List.append_nil, if_neg (by omega), colophonref07_Print.l0, if_neg (by omega), str_nums]
  | cons d r ih =>
    intro i K B h0 h1 h2 h3
    simp only [List.length_cons] at h3
    obtain ⟨K, rfl⟩ : ∃ m, K = m + 1 := ⟨K - 1, by omega⟩
    obtain ⟨g1, g2, g3⟩ := drop_get L i d r h1
    have hd : Good d := hg d (by rw [← g2, List.getD_eq_getElem?_getD, List.getElem?_eq_getElem g1]; exact List.getElem_mem g1)
    have hrd : rd_T33 L (i : Int) = d := by unfold rd_T33; rw [Int.toNat_natCast]; exact g2
    have hl : linesB (d :: r) = lnB d ++ linesB r := by unfold linesB; rw [List.flatMap_cons]
    have hll := lnB_len d (good_ok hd).2.2.1
    have e2 : Hid (wrap64 ((i : Int) + 1) = ((i + 1 : Nat) : Int)) := Lib.hid (by rw [w64 (by omega) (by omega)]; omega)
    have hb : bytesOf (⟨(LB d).toArray⟩ : ByteArray) = nums (LB d) := by unfold bytesOf nums; simp
    have hsz : (⟨(LB d).toArray⟩ : ByteArray).size = (LB d).length := by rw [← size_len]
    have h10 : ([10] : List Int) = nums [10] := rfl
    have hnew : nums B ++ nums (LB d) ++ nums [10] = nums (B ++ lnB d) := by rw [nums_app, lnB_LB, nums_app, List.append_assoc]
    rw [lnB_LB, List.length_append, List.length_singleton] at hll
    rw [colophonref07_Print.l0, if_pos (by omega), if_pos (by omega), hrd, line_f d hd K (by omega), Option.bind_some, hb, hsz, if_pos (by rw [nums_len]; omega), Option.bind_some, if_pos (by rw [List.length_append, nums_len, nums_len]; omega), Option.bind_some, h10, hnew, e2.out, nums_len, hl, ← List.append_assoc]
    by_cases c : 4194304 < (B ++ lnB d).length
    · rw [if_pos (by omega), if_pos (by rw [List.length_append]; omega)]
    · rw [if_neg (by omega)]
      exact ih (i + 1) K (B ++ lnB d) (by omega) g3 (by omega) (by omega)
theorem rprint_f (l : List S33) (hz : ∀ d ∈ l, 0 ≤ d.f0) (K : Nat) (hK : 70000 + 2 * l.length < K) : colophonref07_Print.f K l = doc_Print.f l := by
  rw [printAny_f l hz]
  unfold colophonref07_Print.f
  rw [rcheck_f l hz K (by omega), Option.bind_some]
  by_cases c : (chkV l).1 = 0
  · obtain ⟨hg, hl⟩ := chkV_good l hz c
    rw [if_pos c, if_pos c]
    have := rprint_l0 l hl hg l 0 K [] (by omega) rfl (by simp) (by omega)
    rw [List.nil_append] at this
    exact this
  · rw [if_neg c, if_neg c]
end Go.Proofs.YtbdilejhbeffjaaDoor
end
