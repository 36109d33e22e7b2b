/- The law ScanCovers, reckoned over the plain scan. -/
import Derived.Test.YtdphhmigbbgjmaaDoorBegA
import Derived.Test.YtdphhmigbbgjmaaDoorM5
import Derived.Test.YtdphhmigbbgjmaaDoorPScan11
import Derived.Test.YtdphhmigbbgjmaaDoorPScan12
import Derived.Test.YtdphhmigbbgjmaaDoorPScan13
namespace Go.Proofs.YtdphhmigbbgjmaaDoor
open Go.RowKit Go.Lib
open PScan
open Go.Proofs.YtdphhmigbbgjmaaDoorW.PrintWords
set_option linter.unusedVariables false
set_option linter.unusedSimpArgs false
/-- Bytes that may stand between tokens. -/
def Gap (s : ByteArray) (a b : Nat) : Prop := ∀ j, a ≤ j → j < b → byteAt s j = 10 ∨ blnB ((byteAt s j : Nat) : Int) = true
theorem btw_l0 (s : ByteArray) (hs : s.size ≤ 67108864) (b : Nat) (hb : b ≤ s.size) (d : Nat) : ∀ (K i n : Nat), i + d = b → Gap s i b → d < K → n ≤ i → colophonlaw10_between.l0 K s (b : Int) (n : Int) (i : Int) = some ((n + (nlAt s b - nlAt s i) : Nat) : Int) := by
  induction d with
  | zero =>
    intro K i n h1 hg hK hn
    obtain ⟨K, rfl⟩ : ∃ m, K = m + 1 := ⟨K - 1, by omega⟩
    rw [colophonlaw10_between.l0, if_neg (by omega), show i = b by omega, Nat.sub_self, Nat.add_zero]
  | succ d ih =>
    intro K i n h1 hg hK hn
    obtain ⟨K, rfl⟩ : ∃ m, K = m + 1 := ⟨K - 1, by omega⟩
    have e1 : Hid (wrap64 ((i : Int) + 1) = ((i + 1 : Nat) : Int)) := Lib.hid (by rw [w64 (by omega) (by omega)]; omega)
    have e2 : Hid (wrap64 ((n : Int) + 1) = ((n + 1 : Nat) : Int)) := Lib.hid (by rw [w64 (by omega) (by omega)]; omega)
    have hm := nl_mono s (i + 1) (b - (i + 1))
    rw [show i + 1 + (b - (i + 1)) = b by omega] at hm
    have en : nlAt s (i + 1) = if byteAt s i = 10 then nlAt s i + 1 else nlAt s i := rfl
    have hg' : Gap s (i + 1) b := fun j q1 q2 => hg j (by omega) q2
    rw [colophonlaw10_between.l0, if_pos (by omega), if_pos (by omega), if_pos (by omega), bt_byte s i (by omega), e1.out, e2.out]
    by_cases c : byteAt s i = 10
    · rw [if_pos (by omega), ih K (i + 1) (n + 1) (by omega) hg' (by omega) (by omega), Option.some.injEq]
      rw [if_pos c] at en
      omega
    · rw [if_neg (by omega)]
      have hbl := (hg i (Nat.le_refl _) (by omega)).resolve_left c
      unfold colophonlaw10_blank.f
      rw [Option.bind_some, if_pos hbl, ih K (i + 1) n (by omega) hg' (by omega) (by omega), Option.some.injEq]
      rw [if_neg c] at en
      omega
theorem btw_at (s : ByteArray) (hs : s.size ≤ 67108864) (a b : Nat) (hab : a ≤ b) (hb : b ≤ s.size) (hg : Gap s a b) (K : Nat) (hK : s.size + 5 ≤ K) : colophonlaw10_between.f K s (a : Int) (b : Int) = some ((nlAt s b - nlAt s a : Nat) : Int) := by
  obtain ⟨K, rfl⟩ : ∃ m, K = m + 1 := ⟨K - 1, by omega⟩
  rw [colophonlaw10_between.f, if_neg (by omega), colophonlaw10_between.j0, decide_eq_false (by omega), if_neg ff]
  have := btw_l0 s hs b hb (b - a) K a 0 (by omega) hg (by omega) (by omega)
  rw [Nat.zero_add] at this
  exact this
theorem btw_some (s : ByteArray) (hs : s.size ≤ 67108864) (b : Nat) (hb : b ≤ s.size) (d : Nat) : ∀ (K i n : Nat), i + d = b → d < K → n ≤ i → ∃ r, colophonlaw10_between.l0 K s (b : Int) (n : Int) (i : Int) = some r := by
  induction d with
  | zero =>
    intro K i n h1 hK hn
    obtain ⟨K, rfl⟩ : ∃ m, K = m + 1 := ⟨K - 1, by omega⟩
    exact ⟨_, by rw [colophonlaw10_between.l0, if_neg (by omega)]⟩
  | succ d ih =>
    intro K i n h1 hK hn
    obtain ⟨K, rfl⟩ : ∃ m, K = m + 1 := ⟨K - 1, by omega⟩
    have e1 : Hid (wrap64 ((i : Int) + 1) = ((i + 1 : Nat) : Int)) := Lib.hid (by rw [w64 (by omega) (by omega)]; omega)
    have e2 : Hid (wrap64 ((n : Int) + 1) = ((n + 1 : Nat) : Int)) := Lib.hid (by rw [w64 (by omega) (by omega)]; omega)
    rw [colophonlaw10_between.l0, if_pos (by omega), if_pos (by omega), if_pos (by omega), bt_byte s i (by omega), e1.out, e2.out]
    split
    · exact ih K (i + 1) (n + 1) (by omega) (by omega) (by omega)
    · unfold colophonlaw10_blank.f
      rw [Option.bind_some]
      split
      · exact ih K (i + 1) n (by omega) (by omega) (by omega)
      · exact ⟨_, rfl⟩
theorem btw_some' (s : ByteArray) (hs : s.size ≤ 67108864) (a b : Nat) (hab : a ≤ b) (hb : b ≤ s.size) (K : Nat) (hK : s.size + 5 ≤ K) : ∃ r, colophonlaw10_between.f K s (a : Int) (b : Int) = some r := by
  obtain ⟨K, rfl⟩ : ∃ m, K = m + 1 := ⟨K - 1, by omega⟩
  rw [colophonlaw10_between.f, if_neg (by omega), colophonlaw10_between.j0, decide_eq_false (by omega), if_neg ff]
  exact btw_some s hs b hb (b - a) K a 0 (by omega) (by omega) (by omega)
/-- Where an error is: where its token begins, but for a text's. -/
def ErAt (m : Nat) (r : Int × Int × Int) : Prop := r.2.2 = 0 ∨ r.2.1 = (m : Int) ∨ (r.2.2 = 102 ∧ (m : Int) < r.2.1)
theorem nm_er (s : ByteArray) (a : Nat) (k : Nat) : ∀ e, ErAt a (nmGo s a k e) := by
  induction k with
  | zero => intro e; exact .inl rfl
  | succ k ih =>
    intro e
    unfold nmGo
    split
    · split
      · exact .inr (.inl rfl)
      · exact ih _
    · split <;> exact .inl rfl
theorem nb_er (s : ByteArray) (a : Nat) (k : Nat) : ∀ e, ErAt a (nbGo s a k e) := by
  induction k with
  | zero => intro e; exact .inl rfl
  | succ k ih =>
    intro e
    unfold nbGo
    split
    · split
      · exact .inr (.inl rfl)
      · exact ih _
    · exact .inl rfl
theorem qt_er (s : ByteArray) (a : Nat) (k : Nat) : ∀ e, a < e → ErAt a (qtGo s a k e) := by
  induction k with
  | zero => intro e _; exact .inl rfl
  | succ k ih =>
    intro e h
    unfold qtGo
    split
    · exact .inr (.inl rfl)
    split
    · exact .inr (.inl rfl)
    split
    · exact .inr (.inr ⟨rfl, by show (a : Int) < (e : Int); omega⟩)
    split
    · exact .inl rfl
    · exact ih _ (by omega)
theorem cm_er (s : ByteArray) (a : Nat) (line : Bool) (k : Nat) : ∀ e, ErAt a (cmGo s a line k e) := by
  induction k with
  | zero => intro e; exact .inl rfl
  | succ k ih =>
    intro e
    unfold cmGo
    split
    · exact .inl rfl
    split
    · exact .inr (.inl rfl)
    split
    · exact .inr (.inl rfl)
    split
    · exact .inl rfl
    · exact ih _
theorem sg_er (s : ByteArray) (a e : Nat) (h : a < e) : ErAt a (sgV s a e) := by
  unfold sgV
  split
  · exact .inr (.inl rfl)
  split
  · exact .inr (.inr ⟨rfl, by show (a : Int) < (e : Int); omega⟩)
  split
  · exact .inr (.inl rfl)
  split
  · exact .inl rfl
  · exact .inr (.inr ⟨rfl, by show (a : Int) < ((e + nOf s e : Nat) : Int); omega⟩)
theorem one_er (s : ByteArray) (m : Nat) (hm : m < s.size) : ErAt m (oneV s m) := by
  have hn := nOf_bd s m hm
  unfold oneV
  split
  · exact nm_er _ _ _ _
  split
  · exact nb_er _ _ _ _
  split
  · exact qt_er _ _ _ _ (by omega)
  split
  · exact sg_er _ _ _ (by omega)
  split
  · exact cm_er _ _ _ _ _
  split
  · exact .inr (.inl rfl)
  · exact .inl rfl
theorem ws_gap (s : ByteArray) (a : Nat) : Gap s a (wsE s a) := fun j h1 h2 => by
  have := ws_at s a (j - a) (by omega)
  rwa [show a + (j - a) = j by omega] at this
theorem trimR_take (n : Nat) : ∀ l : Bs, l.length = n → ∃ q, q ≤ l.length ∧ Lib.trimRightS l [32, 9, 13] = l.take q ∧ (∀ j, q ≤ j → j < l.length → ([32, 9, 13] : Bs).contains (l.getD j 0) = true) ∧ (0 < l.length → ([32, 9, 13] : Bs).contains (l.getD 0 0) = false → 0 < q) := by
  induction n with
  | zero =>
    intro l h
    cases l with
    | nil => exact ⟨0, Nat.le_refl _, rfl, fun j h1 h2 => by simp at h2, fun h => by simp at h⟩
    | cons b r => simp at h
  | succ n ih =>
    intro l h1
    have hne : l ≠ [] := fun e => by rw [e] at h1; simp at h1
    obtain ⟨l', y, rfl⟩ : ∃ l' y, l = l' ++ [y] := ⟨l.dropLast, l.getLast hne, (List.dropLast_concat_getLast hne).symm⟩
    have hl' : l'.length = n := by simpa using h1
    have hlen : (l' ++ [y]).length = l'.length + 1 := by simp
    have hy : (l' ++ [y]).getD l'.length 0 = y := by simp
    have hx : ∀ j, j < l'.length → (l' ++ [y]).getD j 0 = l'.getD j 0 := fun j hj => by
      simp [List.getD_eq_getElem?_getD, List.getElem?_append_left hj]
    rw [trimR_snoc]
    by_cases c : ([32, 9, 13] : Bs).contains y = true
    · rw [if_pos c]
      obtain ⟨q, q1, q2, q3, q4⟩ := ih l' hl'
      refine ⟨q, by omega, ?_, fun j h1 h2 => ?_, fun h1 h2 => ?_⟩
      · rw [q2, List.take_append_of_le_length q1]
      · by_cases e : j = l'.length
        · rw [e, hy]; exact c
        · rw [hx j (by omega)]; exact q3 j h1 (by omega)
      · cases hl : l' with
        | nil => rw [hl] at h2; simp only [List.nil_append] at h2; rw [show ([y] : Bs).getD 0 0 = y from rfl, c] at h2; cases h2
        | cons b r => exact q4 (by rw [hl]; simp) (by rw [← hx 0 (by rw [hl]; simp)]; exact h2)
    · rw [if_neg c]
      exact ⟨(l' ++ [y]).length, Nat.le_refl _, by rw [List.take_length], fun j h1 h2 => by omega, fun h1 _ => h1⟩
/-- A token's text is a beginning of its bytes, with blanks behind. -/
theorem tx_fact (s : ByteArray) (m E : Nat) (r : Int × Int × Int) (hr : r.2.1 = (E : Int)) (h1 : m < E) (h2 : E ≤ s.size) (hb : blnB ((byteAt s m : Nat) : Int) = false) :
    ∃ q, m < q ∧ q ≤ E ∧ txV s m r = cutS s m q ∧ (∀ j, q ≤ j → j < E → blnB ((byteAt s j : Nat) : Int) = true) := by
  unfold txV
  rw [hr, Int.toNat_natCast]
  by_cases c : r.1 = 7
  · rw [if_pos c]
    have hl : (cutS s m E).data.toList.length = E - m := by rw [size_len, cut_size s m E h2]
    have hg : ∀ j, j < E - m → ((cutS s m E).data.toList.getD j 0).toNat = byteAt s (m + j) := fun j hj => cut_byte s m E j hj
    obtain ⟨q, q1, q2, q3, q4⟩ := trimR_take _ (cutS s m E).data.toList rfl
    rw [hl] at q1 q3 q4
    have h0 : 0 < q := q4 (by omega) (by rw [← bln_has, hg 0 (by omega), Nat.add_zero]; exact hb)
    refine ⟨m + q, by omega, by omega, ?_, fun j j1 j2 => ?_⟩
    · apply ba_ext
      rw [q2, cut_list s m (m + q), cut_list s m E, List.take_take, Nat.min_eq_left (by omega)]
      simp only
      rw [show m + q - m = q by omega]
    · have := q3 (j - m) (by omega) (by omega)
      rw [← bln_has, hg _ (by omega), show m + (j - m) = j by omega] at this
      exact this
  · rw [if_neg c]
    exact ⟨E, h1, Nat.le_refl _, rfl, fun j j1 j2 => by omega⟩
theorem bln_no10 {x : Int} (h : blnB x = true) : x ≠ 10 := fun e => by rw [e] at h; exact absurd h (by decide)
theorem nl_blanks (s : ByteArray) (q : Nat) : ∀ d, (∀ j, q ≤ j → j < q + d → blnB ((byteAt s j : Nat) : Int) = true) → nlAt s (q + d) = nlAt s q := fun d h =>
  (same_line s q d fun j h1 h2 => fun e => bln_no10 (h j h1 h2) (by omega)).1
theorem ba_list_eq {x y : ByteArray} (h : x = y) : (x.toList != y.toList) = false := by rw [h]; simp
set_option maxHeartbeats 1000000 in
theorem covers_l0 (s : ByteArray) (hs : s.size ≤ 67108864) (L : List S35) (hL : L.length ≤ s.size) (er : Int) (last : Nat) (k : Nat) : ∀ (a at_ h : Nat) (done : List S35) (K : Nat), CB s a → s.size < a + k → L = done ++ (scS s k a).1 → er = (scS s k a).2.1 → last = (if (scS s k a).2.1 = 0 then s.size else (scS s k a).2.2) →
    at_ ≤ a → Gap s at_ a → nlAt s at_ = nlAt s a → CB s h → h ≤ a → s.size + 2 * k + 10 ≤ K →
    colophonlaw10_ScanCovers.l0 K s L er (last : Int) (at_ : Int) (done.length : Int) (plT s h).1 (plT s h).2.1 (plT s h).2.2 = some true := by
  induction k with
  | zero => intro a at_ h done K hC h1; have := hC.1; omega
  | succ k ih =>
    intro a at_ h done K hC h1 hLd her hla hat hgap hnl hCh hha hK
    obtain ⟨K, rfl⟩ : ∃ m, K = m + 2 := ⟨K - 2, by omega⟩
    obtain ⟨w1, w2, w3⟩ := wsE_fin s a hC
    have hwg := ws_gap s a
    have hwe := ws_end s a
    have hg2 : Gap s at_ (wsE s a) := fun j j1 j2 => by
      by_cases c : j < a
      · exact hgap j j1 c
      · exact hwg j (by omega) j2
    have hS : scS s (k + 1) a = if wsE s a = s.size then ([], 0, 0)
    else if (oneV s (wsE s a)).2.2 = 0 then (tkV s a (wsE s a) (oneV s (wsE s a)) :: (scS s k (oneV s (wsE s a)).2.1.toNat).1, (scS s k (oneV s (wsE s a)).2.1.toNat).2)
    else ([], (oneV s (wsE s a)).2.2, (oneV s (wsE s a)).2.1.toNat) := by rw [scS]
    rw [hS] at hLd her hla
    clear hS hwg
    generalize wsE s a = m at *
    rw [colophonlaw10_ScanCovers.l0]
    by_cases c0 : m = s.size
    · rw [if_pos c0] at hLd her hla
      simp only [if_pos] at hLd her hla
      rw [List.append_nil] at hLd
      rw [← hLd, if_neg (by omega), hla, btw_at s hs at_ s.size (by omega) (Nat.le_refl _) (by rw [← c0]; exact hg2) _ (by omega), Option.bind_some, if_pos (by omega)]
    rw [if_neg c0] at hLd her hla
    obtain ⟨E, q1, q2, q3, q4, q5⟩ := one_fin s m (by omega) w3
    have hEm : (oneV s m).2.1.toNat = E := by rw [q1]; simp
    rw [hEm] at hLd her hla
    by_cases c2 : (oneV s m).2.2 = 0
    · have q6 := q5 c2
      rw [if_pos c2] at hLd her hla
      simp only at hLd her hla
      have hrd : rd_T35 L (done.length : Int) = tkV s a m (oneV s m) := by unfold rd_T35; rw [hLd, Int.toNat_natCast]; simp
      have hlen : done.length < L.length := by rw [hLd]; simp
      obtain ⟨hb10, hbb⟩ := hwe (by omega) hC.1
      obtain ⟨q, t1, t2, t3, t4⟩ := tx_fact s m E _ q1 (by omega) q3 hbb
      have hx1 : (tkV s a m (oneV s m)).f1 = cutS s m q := t3
      have hx2 : (tkV s a m (oneV s m)).f2.f0 = (m : Int) := rfl
      have hx3 : (tkV s a m (oneV s m)).f3 = ((nlAt s m - nlAt s a : Nat) : Int) := rfl
      have hx4 : (tkV s a m (oneV s m)).f2.f1 = (plT s m).2.1 := rfl
      have hx5 : (tkV s a m (oneV s m)).f2.f2 = (plT s m).2.2 := rfl
      have hsz : ((cutS s m q).size : Int) = ((q - m : Nat) : Int) := by rw [cut_size s m q (by omega)]
      have e1 : Hid (wrap64 ((m : Int) + ((q - m : Nat) : Int)) = (q : Int)) := Lib.hid (by rw [w64 (by omega) (by omega)]; omega)
      have e2 : Hid (wrap64 ((done.length : Int) + 1) = ((done.length + 1 : Nat) : Int)) := Lib.hid (by rw [w64 (by omega) (by omega)]; omega)
      rw [if_pos (by omega), if_pos (by omega), hrd, hx2, hx1, hx3, hx4, hx5, hsz, e1.out, btw_at s hs at_ m (by omega) w2 hg2 _ (by omega), Option.bind_some, if_neg (by omega), if_pos (by rw [hnl]), if_neg (by omega), if_neg (by omega), if_pos (by omega), if_pos (by omega), if_pos (by omega), Int.toNat_natCast, Int.toNat_natCast, ba_list_eq rfl]
      rw [colophonlaw10_ScanCovers.j3, if_neg ff]
      have hp1 : (plT s h).1 = (h : Int) := rfl
      have hadv := adv_f s h m hCh (by omega) w2 (by omega)
      rw [hp1] at hadv ⊢
      rw [if_pos (by omega), if_pos (by omega), if_pos (by omega), Int.toNat_natCast, Int.toNat_natCast, hadv, Option.bind_some]
      rw [if_neg (by rw [show (plT s m).1 = (m : Int) from rfl]; simp), e2.out]
      have hfin := ih E q m (done ++ [tkV s a m (oneV s m)]) K q4 (by omega) (by rw [hLd, List.append_assoc]; rfl) her hla t2 (fun j j1 j2 => .inr (t4 j j1 j2)) (by
        have := nl_blanks s q (E - q) (fun j j1 j2 => t4 j j1 (by omega))
        rw [show q + (E - q) = E by omega] at this; exact this.symm) w3 q2 (by omega)
      rw [List.length_append, List.length_singleton] at hfin
      exact hfin
    · rw [if_neg c2] at hLd her hla
      simp only at hLd her hla
      rw [List.append_nil] at hLd
      rw [if_neg c2] at hla
      rw [← hLd, if_neg (by omega), hla]
      rcases (one_er s m (by omega)).resolve_left c2 with h5 | ⟨h5, h6⟩
      · have : E = m := by omega
        rw [this, btw_at s hs at_ m (by omega) w2 hg2 _ (by omega), Option.bind_some, if_pos (by omega)]
      · obtain ⟨r, hr⟩ := btw_some' s hs at_ E (by omega) q3 (K + 1) (by omega)
        rw [hr, Option.bind_some, her, h5]
        split
        · rfl
        · rw [if_pos rfl, decide_eq_true (by omega)]
theorem place_Of_f (s : ByteArray) (hs : s.size ≤ 67108864) (o : Nat) (ho : o ≤ s.size) (K : Nat) : place_Of.f (K + 1) s (o : Int) = some ((plT s o).1, (plT s o).2.1, (plT s o).2.2, 0) := by
  rw [place_Of.f, if_neg (by omega), decide_eq_false (by omega), place_Of.j0, if_neg ff]
  unfold place_Start.f
  rw [Option.bind_some, if_pos (by omega), if_pos (by omega), Int.toNat_natCast]
  unfold place_Advance.f
  rw [if_pos (by rw [cut_size s 0 o ho]; omega), Option.bind_some]
  have := adv_from0 s o ho (by omega)
  simp only [this]
theorem sc_pos (s : ByteArray) (k : Nat) : ∀ a, CB s a → s.size < a + k → (scS s k a).2.2 ≤ s.size := by
  induction k with
  | zero => intro a h h1; have := h.1; omega
  | succ k ih =>
    intro a hC h1
    obtain ⟨w1, w2, w3⟩ := wsE_fin s a hC
    unfold scS
    by_cases c0 : wsE s a = s.size
    · rw [if_pos c0]; exact Nat.zero_le _
    rw [if_neg c0]
    obtain ⟨E, q1, q2, q3, q4, q5⟩ := one_fin s (wsE s a) (by omega) w3
    have hEm : (oneV s (wsE s a)).2.1.toNat = E := by rw [q1]; simp
    by_cases c2 : (oneV s (wsE s a)).2.2 = 0
    · have q6 := q5 c2
      rw [if_pos c2, hEm]; exact ih E q4 (by omega)
    · rw [if_neg c2, hEm]; exact q3
theorem covers_j (s : ByteArray) (hs : s.size ≤ 67108864) (K : Nat) (hK : 3 * s.size + 40 ≤ K) : colophonlaw10_ScanCovers.j0 K s true false = some true := by
  obtain ⟨K, rfl⟩ : ∃ m, K = m + 2 := ⟨K - 2, by omega⟩
  rw [colophonlaw10_ScanCovers.j0, if_neg ff, all_at s (by omega) (by omega), Option.bind_some]
  have hlen := all_len s
  have hps := sc_pos s (s.size + 1) 0 (CB_zero s) (by omega)
  have key : ∀ last : Nat, last = (if (scV s).2.1 = 0 then s.size else (scV s).2.2) → colophonlaw10_ScanCovers.j1 (K + 1) s (allV s).1 (allV s).2.1 (last : Int) = some true := fun last hl => by
    rw [colophonlaw10_ScanCovers.j1]
    unfold place_Start.f
    rw [Option.bind_some]
    have := covers_l0 s hs (allV s).1 hlen (allV s).2.1 last (s.size + 1) 0 0 0 [] K (CB_zero s) (by omega) rfl rfl hl (Nat.le_refl _) (fun j h1 h2 => by omega) rfl (CB_zero s) (Nat.le_refl _) (by omega)
    have e0 : plT s 0 = (0, 1, 1) := by simp [plT, nlAt, colN, cnt_nil]
    rw [e0] at this
    exact this
  by_cases c : (scV s).2.1 = 0
  · rw [if_pos (show (allV s).2.1 = 0 from c)]
    exact key s.size (by rw [if_pos c])
  · rw [if_neg (show ¬ (allV s).2.1 = 0 from c)]
    have e1 : (allV s).2.2 = plT s (scV s).2.2 := by show erP s (scV s).2 = _; unfold erP; rw [if_neg c]
    rw [e1, show (plT s (scV s).2.2).1 = (((scV s).2.2 : Nat) : Int) from rfl, place_Of_f s hs _ (show (scV s).2.2 ≤ s.size from hps), Option.bind_some, if_pos rfl, if_neg (by rw [show (plT s (scV s).2.2).1 = (((scV s).2.2 : Nat) : Int) from rfl]; simp)]
    exact key _ (by rw [if_neg c])
theorem covers_f (s : ByteArray) : colophonlaw10_ScanCovers.f (3 * s.size + 100) s = some true := by
  rw [colophonlaw10_ScanCovers.f, awake10_at (by omega), Option.bind_some, if_pos rfl]
  by_cases hs : s.size ≤ 67108864
  · rw [decide_eq_false (by omega)]
    exact covers_j s hs _ (by omega)
  · rw [decide_eq_true (by omega), colophonlaw10_ScanCovers.j0, if_pos rfl]
end Go.Proofs.YtdphhmigbbgjmaaDoor
