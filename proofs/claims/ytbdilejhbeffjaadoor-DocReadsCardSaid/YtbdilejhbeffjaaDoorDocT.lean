/- Reading a layout's text, in plain Lean: it comes to an answer; what is read is the text. -/
import Derived.Test.YtbdilejhbeffjaaDoorDocQ
import Derived.Test.YtbdilejhbeffjaaDoorPDoc4
import Derived.Test.YtbdilejhbeffjaaDoorPDoc10
namespace Go.Proofs.YtbdilejhbeffjaaDoor
open Go.RowKit Go.Lib Go.Proofs.YtbdilejhbeffjaaDoorW.PrintWords
open PDoc
set_option linter.unusedVariables false
set_option linter.unusedSimpArgs false
/-- Unescaping comes to an answer. -/
theorem un_tot (s : ByteArray) (hs : s.size ≤ 4194304) (d : Nat) : ∀ (i K : Nat) (acc : List Int), s.size ≤ i + d → i ≤ s.size → acc.length ≤ i → 3 * d < K → ∃ t, doc_unescaped.l0 K s acc (i : Int) = some t ∧ t.size ≤ s.size := by
  induction d using Nat.strongRecOn with
  | ind d ih =>
    intro i K acc h1 h2 h3 hK
    by_cases c : i = s.size
    · obtain ⟨K, rfl⟩ : ∃ m, K = m + 1 := ⟨K - 1, by omega⟩
      rw [doc_unescaped.l0, if_neg (by omega)]
      exact ⟨_, rfl, by rw [strOfNums_size]; omega⟩
    · obtain ⟨K, rfl⟩ : ∃ m, K = m + 3 := ⟨K - 3, by omega⟩
      have q : ∀ n : Nat, n ≤ 10 → Hid (wrap64 ((i : Int) + (n : Int)) = ((i + n : Nat) : Int)) := fun n hn => Lib.hid (by rw [w64 (by omega) (by omega)]; omega)
      have q1 := q 1 (by omega)
      have q2 : Hid (wrap64 (((i + 1 : Nat) : Int) + 1) = ((i + 2 : Nat) : Int)) := Lib.hid (by rw [w64 (by omega) (by omega)]; omega)
      have q3 : Hid (wrap64 (((i + 1 : Nat) : Int) + 2) = ((i + 3 : Nat) : Int)) := Lib.hid (by rw [w64 (by omega) (by omega)]; omega)
      have q4 : Hid (wrap64 (((i + 3 : Nat) : Int) + 1) = ((i + 4 : Nat) : Int)) := Lib.hid (by rw [w64 (by omega) (by omega)]; omega)
      -- one byte as it stands
      have one : ∃ t, doc_unescaped.j1 (K + 2) s acc (i : Int) true = some t ∧ t.size ≤ s.size := by
        obtain ⟨t, ht, htz⟩ := ih (d - 1) (by omega) (i + 1) (K + 1) (acc ++ [bt s (i : Int)]) (by omega) (by omega) (by simp; omega) (by omega)
        refine ⟨t, ?_, htz⟩
        rw [show K + 2 = (K + 1) + 1 from rfl, doc_unescaped.j1, if_pos rfl, if_pos (by omega), if_pos (by omega), if_pos (by omega), show wrap64 ((i : Int) + 1) = ((i + 1 : Nat) : Int) from q1.out]
        exact ht
      rw [show K + 3 = (K + 2) + 1 from rfl, doc_unescaped.l0, if_pos (by omega), if_pos (by omega)]
      by_cases c92 : bt s (i : Int) = 92
      · rw [if_pos c92, show wrap64 ((i : Int) + 1) = ((i + 1 : Nat) : Int) from q1.out]
        by_cases ce : i + 1 = s.size
        · rw [show (((i + 1 : Nat) : Int) == (s.size : Int)) = true by rw [ce]; simp]
          exact one
        · rw [show (((i + 1 : Nat) : Int) == (s.size : Int)) = false by simp; omega]
          have two : ∃ t, doc_unescaped.j2 (K + 1) s acc ((i + 1 : Nat) : Int) false = some t ∧ t.size ≤ s.size := by
            obtain ⟨t, ht, htz⟩ := ih (d - 2) (by omega) (i + 2) K (acc ++ [bt s ((i + 1 : Nat) : Int)]) (by omega) (by omega) (by simp; omega) (by omega)
            refine ⟨t, ?_, htz⟩
            rw [doc_unescaped.j2, if_neg ff, if_pos (by omega), if_pos (by omega), if_pos (by omega), q2.out]
            exact ht
          rw [show K + 2 = (K + 1) + 1 from rfl, doc_unescaped.j1, if_neg ff, show wrap64 ((i : Int) + 1) = ((i + 1 : Nat) : Int) from q1.out, if_pos (by omega), if_pos (by omega), q3.out]
          by_cases cx : bt s ((i + 1 : Nat) : Int) = 120
          · rw [if_pos cx]
            by_cases cl : i + 3 < s.size
            · rw [show decide (((i + 3 : Nat) : Int) < (s.size : Int)) = true by simp; omega]
              rw [doc_unescaped.j2, if_pos rfl, q2.out, q3.out, if_pos (by omega), if_pos (by omega)]
              unfold strings_IndexByte.f
              rw [Option.bind_some, if_pos (by omega), if_pos (by omega), Option.bind_some, if_pos (by omega), q4.out]
              exact ih (d - 4) (by omega) (i + 4) K _ (by omega) (by omega) (by simp; omega) (by omega)
            · rw [show decide (((i + 3 : Nat) : Int) < (s.size : Int)) = false by simp; omega]
              exact two
          · rw [if_neg cx]
            exact two
      · rw [if_neg c92]
        exact one
theorem cutSuf_tot (s p : ByteArray) (hs : s.size ≤ 4194304) (hp : p.size ≤ 100) : ∃ r, strings_CutSuffix.f s p = some r := by
  have e1 : (p.size : Int) ≤ (s.size : Int) → wrap64 ((s.size : Int) - (p.size : Int)) = ((s.size - p.size : Nat) : Int) := fun h => by rw [w64 (by omega) (by omega)]; omega
  unfold strings_CutSuffix.f stringslite_CutSuffix.f stringslite_HasSuffix.f
  by_cases c : (s.size : Int) ≥ (p.size : Int)
  · rw [if_pos c, e1 c, if_pos (by omega), if_pos (by omega), Option.bind_some]
    split
    · rw [if_pos (by omega), if_pos (by omega)]; exact ⟨_, rfl⟩
    · exact ⟨_, rfl⟩
  · rw [if_neg c, Option.bind_some, if_neg ff]; exact ⟨_, rfl⟩
/-- A line is read, as a piece or as none; of a piece it is the line. -/
theorem read_tot (s : ByteArray) (hs : s.size ≤ 4194304) : ∃ k t n i e ok, doc_read.f s = some (k, t, n, i, e, ok) ∧ (ok = true → Good ⟨k, t, n, i, e⟩ ∧ LB ⟨k, t, n, i, e⟩ = s.data.toList) := by
  have hle : ∀ a, (cutS s a s.size).size ≤ s.size := fun a => cut_le _ _ _
  have fin : ∀ (k : Nat) (t : ByteArray) (n i : Int) (e : Bool), t.size ≤ s.size → ∃ k' t' n' i' e' ok, readEnd s k t n i e = some (k', t', n', i', e', ok) ∧ (ok = true → Good ⟨k', t', n', i', e'⟩ ∧ LB ⟨k', t', n', i', e'⟩ = s.data.toList) := fun k t n i e ht => by
    unfold readEnd
    rw [if_pos (by omega)]
    refine ⟨_, _, _, _, _, _, rfl, fun hok => ?_⟩
    rw [Bool.and_eq_true, decide_eq_true_eq] at hok
    exact ⟨⟨by show (0 : Int) ≤ (k : Int); omega, by unfold rightD; simpa using hok.1⟩, by unfold LB; simpa using hok.2⟩
  have z0 : (⟨#[]⟩ : ByteArray).size = 0 := rfl
  unfold doc_read.f
  rw [if_pos (by omega)]
  split
  · exact ⟨_, _, _, _, _, _, rfl, fun h => by cases h⟩
  · obtain ⟨t, ht, htz⟩ := un_tot (cutS s 5 s.size) (Nat.le_trans (hle 5) hs) (cutS s 5 s.size).size 0 (4 * s.size + 50) [] (by omega) (by omega) (by simp) (by have := hle 5; omega)
    unfold doc_unescaped.f
    rw [show ((0 : Int)) = ((0 : Nat) : Int) from rfl, ht, Option.bind_some]
    exact fin 1 t 0 0 false (Nat.le_trans htz (hle 5))
  · exact fin 3 _ _ _ _ (by omega)
  · obtain ⟨r, hr⟩ := cutSuf_tot (cutS s 6 s.size) evenW (Nat.le_trans (hle 6) hs) (by decide)
    rw [hr, Option.bind_some]
    exact fin 6 _ _ _ _ (by omega)
  · exact fin _ _ _ _ _ (by omega)
theorem idx_ten (a b : List UInt8) (h : (10 : UInt8) ∉ a) : Lib.indexByte (a ++ 10 :: b) 10 = (a.length : Int) := by
  induction a with
  | nil => simp [Lib.indexByte]
  | cons c r ih =>
    simp only [List.mem_cons, not_or] at h
    have := ih h.2
    simp only [List.cons_append, Lib.indexByte]
    rw [if_neg (by simpa using fun e => h.1 e.symm), this]
    simp
theorem idx_none (a : List UInt8) (h : (10 : UInt8) ∉ a) : Lib.indexByte a 10 = -1 := by
  induction a with
  | nil => rfl
  | cons c r ih =>
    simp only [List.mem_cons, not_or] at h
    simp only [Lib.indexByte]
    rw [if_neg (by simpa using fun e => h.1 e.symm), ih h.2]
    rfl
theorem cut_ten (s : ByteArray) (hs : s.size ≤ 4194304) (a b : List UInt8) (h : s.data.toList = a ++ 10 :: b) (ha : (10 : UInt8) ∉ a) : ∃ x y, strings_Cut.f s ⟨#[10]⟩ = some (x, y, true) ∧ x.data.toList = a ∧ y.data.toList = b ∧ x.size ≤ s.size ∧ y.size < s.size := by
  have hz : s.size = a.length + (b.length + 1) := by rw [← size_len, h]; simp
  unfold strings_Cut.f
  rw [if_pos ⟨rfl, by omega⟩, h, idx_ten a b ha, if_pos (by omega), Int.toNat_natCast]
  have e1 : (cutS s 0 a.length).data.toList = a := by rw [cutL, h]; simp
  have e2 : (cutS s (a.length + 1) s.size).data.toList = b := by rw [cutL, List.take_of_length_le (by rw [List.length_drop, size_len]; exact Nat.le_refl _), h]; simp
  exact ⟨_, _, rfl, e1, e2, by rw [← size_len, e1]; omega, by rw [← size_len, e2]; omega⟩
theorem cut_none (s : ByteArray) (hs : s.size ≤ 4194304) (h : (10 : UInt8) ∉ s.data.toList) : strings_Cut.f s ⟨#[10]⟩ = some (s, ⟨#[]⟩, false) := by
  unfold strings_Cut.f
  rw [if_pos ⟨rfl, by omega⟩, idx_none _ h, if_neg (by omega)]
theorem split_ten (l : List UInt8) : (10 : UInt8) ∉ l ∨ ∃ a b, l = a ++ 10 :: b ∧ (10 : UInt8) ∉ a := by
  induction l with
  | nil => exact .inl (by simp)
  | cons c r ih =>
    by_cases hc : c = 10
    · exact .inr ⟨[], r, by rw [hc]; rfl, by simp⟩
    · rcases ih with h | ⟨a, b, h1, h2⟩
      · exact .inl (by simp only [List.mem_cons, not_or]; exact ⟨fun e => hc e.symm, h⟩)
      · exact .inr ⟨c :: a, b, by rw [h1]; rfl, by simp only [List.mem_cons, not_or]; exact ⟨fun e => hc e.symm, h2⟩⟩
/-- Parsing comes to an answer; a layout that is read has the text, and may be. -/
theorem parse_tot (n : Nat) : ∀ (s : ByteArray) (acc : List S33) (K : Nat), s.size ≤ n → s.size + acc.length ≤ 4194304 → (∀ d ∈ acc, Good d) → 3 * s.size + 2 * acc.length + 5 < K →
    ∃ L e m, doc_Parse.l0 K s acc = some (L, e, m) ∧ (e ≠ 0 → L = []) ∧ (e = 0 → ∃ R, L = acc ++ R ∧ (∀ d ∈ L, Good d) ∧ linesB R = s.data.toList ∧ (chkV L).1 = 0) := by
  induction n with
  | zero =>
    intro s acc K h1 h2 h3 hK
    obtain ⟨K, rfl⟩ : ∃ m, K = m + 1 := ⟨K - 1, by omega⟩
    have hnil : s.data.toList = [] := List.length_eq_zero_iff.1 (by rw [size_len]; omega)
    have hn2 : s.toList = ([] : List UInt8) := by rw [Lib.toList_data]; exact hnil
    rw [doc_Parse.l0, if_pos hn2, check_f acc (fun d hd => (h3 d hd).a) K (by omega), Option.bind_some]
    by_cases c : (chkV acc).1 = 0
    · rw [if_pos c]
      exact ⟨_, _, _, rfl, fun h => absurd rfl h, fun _ => ⟨[], by simp, h3, by rw [hnil]; rfl, c⟩⟩
    · rw [if_neg c]
      exact ⟨_, _, _, rfl, fun _ => rfl, fun h => absurd h c⟩
  | succ n ih =>
    intro s acc K h1 h2 h3 hK
    obtain ⟨K, rfl⟩ : ∃ m, K = m + 1 := ⟨K - 1, by omega⟩
    by_cases hnil : s.data.toList = []
    · have hz : s.size = 0 := by rw [← size_len, hnil]; rfl
      exact ih s acc (K + 1) (by omega) h2 h3 hK
    have hn2 : ¬ s.toList = ([] : List UInt8) := by rw [Lib.toList_data]; exact hnil
    rw [doc_Parse.l0, if_neg hn2]
    rcases split_ten s.data.toList with hno | ⟨a, b, hab, ha⟩
    · rw [cut_none s (by omega) hno, Option.bind_some]
      obtain ⟨k, t, m, i, e, ok, hr, _⟩ := read_tot s (by omega)
      rw [hr, Option.bind_some]
      simp only
      cases ok with
      | true => rw [if_pos rfl, if_neg ff]; exact ⟨_, _, _, rfl, fun _ => rfl, fun h => absurd h (by decide)⟩
      | false => rw [if_neg ff]; exact ⟨_, _, _, rfl, fun _ => rfl, fun h => absurd h (by decide)⟩
    · obtain ⟨x, y, hc, hx, hy, hxz, hyz⟩ := cut_ten s (by omega) a b hab ha
      rw [hc, Option.bind_some]
      simp only
      obtain ⟨k, t, m, i, e, ok, hr, hgood⟩ := read_tot x (by omega)
      rw [hr, Option.bind_some]
      simp only
      cases ok with
      | false => rw [if_neg ff]; exact ⟨_, _, _, rfl, fun _ => rfl, fun h => absurd h (by decide)⟩
      | true =>
        obtain ⟨hg, hl⟩ := hgood rfl
        rw [if_pos rfl, if_pos trivial, if_pos (by omega)]
        obtain ⟨L, e', m', hp, hq1, hq2⟩ := ih y (acc ++ [⟨k, t, m, i, e⟩]) K (by omega) (by simp; omega) (fun d hd => by
          rcases List.mem_append.1 hd with hd | hd
          · exact h3 d hd
          · simp only [List.mem_singleton] at hd; rw [hd]; exact hg) (by simp; omega)
        refine ⟨L, e', m', hp, hq1, fun h0 => ?_⟩
        obtain ⟨R, r1, r2, r3, r4⟩ := hq2 h0
        refine ⟨⟨k, t, m, i, e⟩ :: R, by rw [r1]; simp, r2, ?_, r4⟩
        rw [hab, ← hy, ← r3, ← hx, ← hl]
        unfold linesB
        rw [List.flatMap_cons, lnB_LB]
        simp
/-- A layout's text without its last byte is read no more: the last line is wrong. -/
theorem parse_cut (L : List S33) : ∀ (s : ByteArray) (acc : List S33) (K : Nat), L ≠ [] → (∀ d ∈ L, Good d) → s.data.toList ++ [10] = linesB L → s.size + acc.length ≤ 4194304 → L.length < K →
    doc_Parse.l0 K s acc = some ([], 71, ((acc.length + L.length : Nat) : Int)) := by
  induction L with
  | nil => intro s acc K h; exact absurd rfl h
  | cons d r ih =>
    intro s acc K _ hg hs hz hK
    simp only [List.length_cons] at hK
    obtain ⟨K, rfl⟩ : ∃ m, K = m + 1 := ⟨K - 1, by omega⟩
    obtain ⟨hten, hpos⟩ := LB_ten d (hg d (by simp))
    have hl : linesB (d :: r) = LB d ++ 10 :: linesB r := by unfold linesB; rw [List.flatMap_cons, lnB_LB]; simp
    rw [hl] at hs
    have q1 : ∀ m : Nat, m ≤ 4194304 → wrap64 ((m : Int) + 1) = ((m + 1 : Nat) : Int) := fun m hm => by rw [w64 (by omega) (by omega)]; omega
    replace q1 := Lib.hid q1
    cases r with
    | nil =>
      have hsl : s.data.toList = LB d := by
        have : linesB ([] : List S33) = [] := rfl
        rw [this] at hs
        exact List.append_left_inj [10] |>.1 hs
      have hne : ¬ s.toList = ([] : List UInt8) := by rw [Lib.toList_data, hsl]; intro h; rw [h] at hpos; simp at hpos
      rw [doc_Parse.l0, if_neg hne, cut_none s (by omega) (by rw [hsl]; exact hten), Option.bind_some]
      simp only
      rw [read_line d (hg d (by simp)) s hsl (by omega), Option.bind_some]
      simp only
      rw [if_pos trivial, if_neg ff, q1.out _ (by omega)]
      rfl
    | cons d2 r2 =>
      have hl2 : ∃ b, linesB (d2 :: r2) = b ++ [10] := by
        have hne : linesB (d2 :: r2) ≠ [] := by unfold linesB; rw [List.flatMap_cons, lnB_LB]; simp
        have hlast : ∀ l : List S33, l ≠ [] → ∃ b, linesB l = b ++ [10] := by
          intro l
          induction l with
          | nil => intro h; exact absurd rfl h
          | cons x y ihy =>
            intro _
            unfold linesB at *
            rw [List.flatMap_cons, lnB_LB]
            cases y with
            | nil => exact ⟨LB x, by simp⟩
            | cons u v =>
              obtain ⟨b, hb⟩ := ihy (by simp)
              exact ⟨LB x ++ [10] ++ b, by rw [hb]; simp⟩
        exact hlast _ (by simp)
      obtain ⟨b, hb⟩ := hl2
      have hsl : s.data.toList = LB d ++ 10 :: b := by
        rw [hb] at hs
        have h9 : s.data.toList ++ [10] = (LB d ++ 10 :: b) ++ [10] := by rw [hs]; simp
        exact List.append_left_inj [10] |>.1 h9
      obtain ⟨x, y, hc, hx, hy, hxz, hyz⟩ := cut_ten s (by omega) (LB d) b hsl hten
      have hne : ¬ s.toList = ([] : List UInt8) := by rw [Lib.toList_data, hsl]; intro h; simp at h
      rw [doc_Parse.l0, if_neg hne, hc, Option.bind_some]
      simp only
      rw [read_line d (hg d (by simp)) x hx (by omega), Option.bind_some]
      simp only
      have hh := ih y (acc ++ [(⟨d.f0, d.f1, d.f2, d.f3, d.f4⟩ : S33)]) K (by simp) (fun z hz => hg z (List.mem_cons_of_mem _ hz)) (by rw [hy, hb]) (by rw [List.length_append, List.length_singleton]; omega) (by simpa using hK)
      rw [if_pos trivial, if_pos trivial, if_pos (by omega), hh]
      simp only [List.length_append, List.length_cons, List.length_nil]
      rw [show acc.length + (0 + 1) + (r2.length + 1) = acc.length + (r2.length + 1 + 1) by omega]
theorem print_f (L : List S33) (hg : ∀ d ∈ L, Good d) (hc : (chkV L).1 = 0) (hz : (linesB L).length ≤ 4194304) : doc_Print.f L = some (⟨(linesB L).toArray⟩, 0) := by
  have hlen : L.length ≤ 2097152 := by
    unfold chkV at hc
    by_cases c : 2097152 < L.length
    · rw [if_pos c] at hc; simp at hc
    · omega
  unfold doc_Print.f
  rw [check_f L (fun d hd => (hg d hd).a) _ (by omega), Option.bind_some, if_pos hc, if_pos ⟨hlen, List.all_eq_true.2 fun d hd => (good_ok (hg d hd)).2.2.1⟩, if_neg (by omega)]
theorem linesB_ge (L : List S33) : L.length ≤ (linesB L).length := by
  induction L with
  | nil => simp [linesB]
  | cons d r ih =>
    unfold linesB at *
    rw [List.flatMap_cons, List.length_append, lnB_LB, List.length_append, List.length_singleton, List.length_cons]; omega
theorem awake7_f : colophonlaw07_awake.f 200 = some true := by decide +kernel
theorem awake7_at {k : Nat} (h : 200 ≤ k) : colophonlaw07_awake.f k = some true := at_rounds (g := fun k => colophonlaw07_awake.f k) (fun k => colophonlaw07_awake.mono k) h awake7_f
theorem reads_f (s : ByteArray) : ∃ k, colophonlaw07_DocReads.f k s = some true := by
  refine ⟨3 * s.size + 300, ?_⟩
  unfold colophonlaw07_DocReads.f doc_Parse.f
  by_cases hs : s.size ≤ 4194304
  · rw [if_neg (by omega)]
    obtain ⟨L, e, m, hp, h1, h2⟩ := parse_tot s.size s [] (3 * s.size + 300) (Nat.le_refl _) (by simpa using hs) (fun d hd => by cases hd) (by simp)
    rw [hp, Option.bind_some]
    simp only
    by_cases he : e = 0
    · rw [if_pos he]
      obtain ⟨R, r1, r2, r3, r4⟩ := h2 he
      rw [List.nil_append] at r1
      subst r1
      have hll : (linesB L).length = s.size := by rw [r3, size_len]
      rw [print_f L r2 r4 (by omega), Option.bind_some]
      simp only
      have hst : (⟨(linesB L).toArray⟩ : ByteArray) = s := ba_ext (by rw [r3])
      rw [if_pos trivial, hst, show (s.toList != s.toList) = false by simp]
      rw [show 3 * s.size + 300 = (3 * s.size + 299) + 1 from rfl, colophonlaw07_DocReads.j0, if_neg ff]
      by_cases hz : s.size = 0
      · have hn : s.toList = ([] : List UInt8) := by rw [Lib.toList_data]; exact List.length_eq_zero_iff.1 (by rw [size_len]; exact hz)
        have := linesB_ge L
        rw [if_pos hn, awake7_at (by omega), Option.bind_some, if_pos rfl, show ((L.length : Int) == 0) = true by simp; exact List.length_eq_zero_iff.1 (by omega)]
      · have hn : ¬ s.toList = ([] : List UInt8) := by rw [Lib.toList_data]; intro h; rw [← size_len, h] at hz; simp at hz
        have q1 : wrap64 ((s.size : Int) - 1) = ((s.size - 1 : Nat) : Int) := by rw [w64 (by omega) (by omega)]; omega
        replace q1 := Lib.hid q1
        have hLne : L ≠ [] := fun h => by rw [h] at hll; simp [linesB] at hll; omega
        have hcut : (cutS s 0 (s.size - 1)).data.toList ++ [10] = linesB L := by
          obtain ⟨b, hb⟩ : ∃ b, linesB L = b ++ [10] := by
            have hlast : ∀ l : List S33, l ≠ [] → ∃ b, linesB l = b ++ [10] := by
              intro l
              induction l with
              | nil => intro h; exact absurd rfl h
              | cons x y ihy =>
                intro _
                unfold linesB at *
                rw [List.flatMap_cons, lnB_LB]
                cases y with
                | nil => exact ⟨LB x, by simp⟩
                | cons u v =>
                  obtain ⟨b, hb⟩ := ihy (by simp)
                  exact ⟨LB x ++ [10] ++ b, by rw [hb]; simp⟩
            exact hlast L hLne
          have hbl : b.length = s.size - 1 := by rw [hb] at hll; simp at hll; omega
          rw [cutL, List.drop_zero, ← r3, hb, Nat.sub_zero, ← hbl]; simp
        have hcz : (cutS s 0 (s.size - 1)).size ≤ s.size := cut_le _ _ _
        have hge := linesB_ge L
        rw [if_neg hn, q1.out, if_pos (by omega), if_pos (by omega), Int.toNat_natCast]
        unfold doc_Parse.f
        rw [if_neg (by omega), parse_cut L _ [] _ hLne r2 hcut (by simp; omega) (by omega), Option.bind_some, awake7_at (by omega), Option.bind_some, if_pos rfl]
        simp
    · rw [if_neg he, awake7_at (by omega), Option.bind_some, if_pos rfl, h1 he]
      rfl
  · rw [if_pos (by omega), Option.bind_some]
    simp only
    rw [if_neg (by decide), awake7_at (by omega), Option.bind_some, if_pos rfl]
    rfl
theorem reads_c (s : ByteArray) (W : World) (hT : Wrds W) : Calls Tryd.prog 12 #[.string s] W fun e w' => e = .returned (.bool true) ∧ Below W.heap.size W w' := by
  obtain ⟨k, hk⟩ := reads_f s
  exact colophonlaw07_DocReads.calls k s true W hk hT
end Go.Proofs.YtbdilejhbeffjaaDoor
