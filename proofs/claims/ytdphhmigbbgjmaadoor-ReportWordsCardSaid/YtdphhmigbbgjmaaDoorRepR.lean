/- The reference of report tells what the program tells. Plain Lean: no program. -/
import Derived.Test.YtdphhmigbbgjmaaDoorRepS
import Derived.Test.YtdphhmigbbgjmaaDoorPRep
import Derived.Lib.Bytes
namespace Go.Proofs.YtdphhmigbbgjmaaDoor
open Go.RowKit Go.Lib Go.Proofs.YtdphhmigbbgjmaaDoorW.PrintWords
open PRep
set_option linter.unusedVariables false
set_option linter.unusedSimpArgs false
def numR (l : List UInt8) : List Int := l.map fun c => ((c.toNat : Nat) : Int)
theorem numR_app (a b : List UInt8) : numR (a ++ b) = numR a ++ numR b := by simp [numR]
theorem numR_len (a : List UInt8) : (numR a).length = a.length := by simp [numR]
theorem str_numR (l : List UInt8) : strOfNums (numR l) = ⟨l.toArray⟩ := by
  apply ByteArray.ext
  apply Array.toList_inj.1
  have h := Lib.strOfNums_toList (numR l)
  have e : (strOfNums (numR l)).data.toList = l := by
    rw [strOfNums_data]
    unfold numR
    rw [List.map_map]
    conv => rhs; rw [← List.map_id l]
    exact List.map_congr_left fun c _ => by simp
  simpa using e
theorem bytes_numR (s : ByteArray) (p n : Nat) : bytesOf (cutS s p n) = numR ((s.data.toList.drop p).take (n - p)) := by
  show (bytesOf (s.extract p n)) = _
  rw [extract_list]; rfl
theorem w64 (n : Nat) (h : n ≤ 1099511627776) : wrap64 (n : Int) = n := by unfold wrap64; omega
set_option maxHeartbeats 2000000 in
theorem shown_l0 (x : ByteArray) (first : Nat) (hx : x.size ≤ 1073741824) : ∀ (m K pos k : Nat) (acc : Bs) (c7 : Int), 2 * m + 2 ≤ K → pos ≤ x.size → k ≤ pos → acc.length ≤ 4 * k → cnt (x.data.toList.drop pos) = m → first ≤ k + m →
    colophonref20_shown.l0 K x (first : Int) (numR acc) c7 (k : Int) (pos : Int) = some (⟨(acc ++ shN m (x.data.toList.drop pos)).toArray⟩, if k ≤ first then wid (acc ++ shN (first - k) (x.data.toList.drop pos)) else c7) := by
  intro m
  induction m with
  | zero =>
    intro K pos k acc c7 hK hp hk ha hc hf
    obtain ⟨K, rfl⟩ : ∃ q, K = q + 1 := ⟨K - 1, by omega⟩
    have he : pos = x.size := by
      rcases Nat.lt_or_ge pos x.size with h | h
      · have := cnt_pos _ (drop_ne x pos h); omega
      · omega
    unfold colophonref20_shown.l0
    rw [if_neg (by omega), str_numR]
    by_cases e : k = first
    · rw [if_pos (by rw [e])]
      have hT : colophonref02_Text.f ⟨acc.toArray⟩ = some (wid acc) := by
        unfold colophonref02_Text.f
        rw [if_pos (by show acc.toArray.size ≤ _; simp; omega)]
      rw [hT, Option.bind_some, if_pos (by omega), e, Nat.sub_self, shN_zero, List.append_nil]
    · rw [if_neg (by omega), if_neg (by omega), shN_zero, List.append_nil]
  | succ m ih =>
    intro K pos k acc c7 hK hp hk ha hc hf
    obtain ⟨K, rfl⟩ : ∃ q, K = q + 1 + 1 := ⟨K - 2, by omega⟩
    have hlt : pos < x.size := by
      rcases Nat.lt_or_ge pos x.size with h | h
      · exact h
      · have := cnt_end x pos h; omega
    have hd1 := dec_pos x pos
    have hd2 := dec_le x pos hlt
    have hca := cnt_at x pos hlt
    have hsh := fun n => shN_at x pos n hlt
    have hel := (enc_len (shR ((Utf8.decode x pos).1 : Int))).2
    have key : ∀ c7', c7' = (if k = first then wid acc else c7) → colophonref20_shown.j1 (K + 1) x (first : Int) (numR acc) c7' (k : Int) (pos : Int) = some (⟨(acc ++ shN (m + 1) (x.data.toList.drop pos)).toArray⟩, if k ≤ first then wid (acc ++ shN (first - k) (x.data.toList.drop pos)) else c7) := by
      intro c7' hc7
      have hI := ih K (pos + (Utf8.decode x pos).2) (k + 1) (acc ++ encodeRune (shR ((Utf8.decode x pos).1 : Int))) c7' (by omega) hd2 (by omega) (by rw [List.length_append]; omega) (by omega) (by omega)
      have hres : (some ((⟨(acc ++ encodeRune (shR ((Utf8.decode x pos).1 : Int)) ++ shN m (x.data.toList.drop (pos + (Utf8.decode x pos).2))).toArray⟩ : ByteArray), if k + 1 ≤ first then wid (acc ++ encodeRune (shR ((Utf8.decode x pos).1 : Int)) ++ shN (first - (k + 1)) (x.data.toList.drop (pos + (Utf8.decode x pos).2))) else c7')) = some (⟨(acc ++ shN (m + 1) (x.data.toList.drop pos)).toArray⟩, if k ≤ first then wid (acc ++ shN (first - k) (x.data.toList.drop pos)) else c7) := by
        rw [hsh m, List.append_assoc]
        congr 2
        by_cases h1 : k + 1 ≤ first
        · rw [if_pos h1, if_pos (by omega), show first - k = (first - (k + 1)) + 1 by omega, hsh, List.append_assoc]
        · rw [if_neg h1, hc7]
          by_cases h2 : k = first
          · rw [if_pos h2, if_pos (by omega), h2, Nat.sub_self, shN_zero, List.append_nil]
          · rw [if_neg h2, if_neg (by omega)]
      rw [hres] at hI
      clear hres ih
      have hN : colophonref01_Next.f x (pos : Int) = some (((Utf8.decode x pos).1 : Int), ((Utf8.decode x pos).2 : Int), okC (Utf8.decode x pos)) := by
        unfold colophonref01_Next.f
        rw [if_pos ⟨by omega, by omega, by omega⟩, Int.toNat_natCast]
      have hw1 : Hid (wrap64 ((k : Int) + 1) = ((k + 1 : Nat) : Int)) := Lib.hid (by rw [show (k : Int) + 1 = ((k + 1 : Nat) : Int) by omega]; exact w64 _ (by omega))
      have hw2 : Hid (wrap64 ((pos : Int) + ((Utf8.decode x pos).2 : Int)) = ((pos + (Utf8.decode x pos).2 : Nat) : Int)) := Lib.hid (by rw [← Int.natCast_add]; exact w64 _ (by omega))
      unfold colophonref20_shown.j1
      rw [hN, Option.bind_some]
      rw [hw1.out, hw2.out]
      rw [numR_app] at hI
      have hne := drop_ne x pos hlt
      have hdl := decodeL_drop x pos
      cases hok : okC (Utf8.decode x pos) with
      | false =>
        have hb := enc_bad (x.data.toList.drop pos) (by rw [hdl]; exact hok)
        rw [hdl] at hb
        rw [if_neg Bool.false_ne_true, Option.bind_some, if_pos (by rw [numR_len]; simp; omega)]
        rw [hb] at hI ⊢
        rw [show numR (encodeRune (shR (((65533, 1) : Nat × Nat).1 : Int))) = [239, 191, 189] by decide] at hI
        exact hI
      | true =>
        rw [if_pos rfl]
        by_cases h1 : ((Utf8.decode x pos).1 : Int) < 32
        · rw [if_pos h1, if_pos (by rw [numR_len]; omega)]
          rw [show shR ((Utf8.decode x pos).1 : Int) = 32 by unfold shR; rw [if_pos (.inl h1)], show numR (encodeRune 32) = [32] by decide] at hI
          exact hI
        · rw [if_neg h1]
          by_cases h2 : ((Utf8.decode x pos).1 : Int) = 127
          · rw [if_pos h2, if_pos (by rw [numR_len]; omega)]
            rw [show shR ((Utf8.decode x pos).1 : Int) = 32 by unfold shR; rw [if_pos (.inr h2)], show numR (encodeRune 32) = [32] by decide] at hI
            exact hI
          · have hen := enc_dec (x.data.toList.drop pos) hne (by rw [hdl]; exact hok)
            rw [hdl] at hen
            have hcs : (cutS x pos (pos + (Utf8.decode x pos).2)).size ≤ 4 := by
              have := bytesOf_length (cutS x pos (pos + (Utf8.decode x pos).2))
              rw [bytes_numR, numR_len, show pos + (Utf8.decode x pos).2 - pos = (Utf8.decode x pos).2 by omega, ← hen] at this
              have := (enc_len ((Utf8.decode x pos).1 : Int)).2
              omega
            rw [if_neg h2, if_pos (by omega), if_pos (by omega), if_pos (by omega), Int.toNat_natCast, Int.toNat_natCast, if_pos (by rw [numR_len]; omega)]
            rw [bytes_numR, show pos + (Utf8.decode x pos).2 - pos = (Utf8.decode x pos).2 by omega, ← hen]
            rw [show shR ((Utf8.decode x pos).1 : Int) = ((Utf8.decode x pos).1 : Int) by unfold shR; rw [if_neg (by omega)]] at hI
            exact hI
    unfold colophonref20_shown.l0
    rw [if_pos (by omega)]
    by_cases e : k = first
    · rw [if_pos (by rw [e]), str_numR]
      have hT : colophonref02_Text.f ⟨acc.toArray⟩ = some (wid acc) := by
        unfold colophonref02_Text.f
        rw [if_pos (by show acc.toArray.size ≤ _; simp; omega)]
      rw [hT, Option.bind_some]
      exact key _ (by rw [if_pos e])
    · rw [if_neg (by omega)]
      exact key _ (by rw [if_neg e])
/-- The reference's row of blanks. -/
theorem blanks_l0 (h : ByteArray) (hh : h.size ≤ 1099511627776) (M : Nat) (hM : M ≤ 1099511627776) : ∀ (d K i : Nat), i + d = M → d + 1 ≤ K →
    colophonref20_Show.l0 K h (M : Int) (numR (List.replicate i 32)) (i : Int) = some (h ++ blB M ++ ⟨#[94, 10]⟩) := by
  intro d
  induction d with
  | zero =>
    intro K i hi hK
    obtain ⟨K, rfl⟩ : ∃ q, K = q + 1 := ⟨K - 1, by omega⟩
    have hb : (⟨(List.replicate i (32 : UInt8)).toArray⟩ : ByteArray) = blB M := by
      unfold blB
      rw [show i = M by omega]
      congr 2
      have := Lib.repeatL_replicate 32 1 M
      simpa using this.symm
    have hs : (blB M).size = M := by rw [← hb]; show (List.toArray _).size = M; simp; omega
    unfold colophonref20_Show.l0
    rw [if_neg (by omega), str_numR, hb, if_pos (by omega), if_pos (by rw [ByteArray.size_append]; omega)]
  | succ d ih =>
    intro K i hi hK
    obtain ⟨K, rfl⟩ : ∃ q, K = q + 1 := ⟨K - 1, by omega⟩
    have hI := ih K (i + 1) (by omega) (by omega)
    have hw : Hid (wrap64 ((i : Int) + 1) = ((i + 1 : Nat) : Int)) := Lib.hid (by rw [show (i : Int) + 1 = ((i + 1 : Nat) : Int) by omega]; exact w64 _ (by omega))
    unfold colophonref20_Show.l0
    rw [if_pos (by omega), if_pos (by rw [numR_len]; simp; omega), hw.out]
    rw [List.replicate_succ', numR_app] at hI
    exact hI
theorem ref20_Show_f (n s : ByteArray) (c a l col : Int) (hn : n.size ≤ 1073741824) (hs : s.size ≤ 1073741824) (hc : inI c) (hl : inI l) (hco : inI col) :
    ∃ k, colophonref20_Show.f k n s c a l col = some (showB n s c l col) := by
  obtain ⟨⟨x, is⟩, hx⟩ : ∃ p, lineT s.data.toList l = p := ⟨_, rfl⟩
  have hxs := lineT_size s l
  rw [hx] at hxs
  have hxs : x.size ≤ s.size := hxs
  have hNx := cnt_le x.data.toList
  rw [size_len] at hNx
  have hH : colophonref20_Head.f n c a l col = some (hedB n c l col) := by unfold colophonref20_Head.f; rw [if_pos ⟨by omega, hc, hl, hco⟩]
  have hL : colophonref03_Line.f s l = some (x, is) := by unfold colophonref03_Line.f; rw [if_pos (by omega), hx]
  have hHs := hedB_size n c l col hc hl hco
  have hfin : showB n s c l col = if is = true then (if col < 1 ∨ (cnt x.data.toList : Int) + 1 < col then hedB n c l col
    else hedB n c l col ++ ⟨#[32, 32]⟩ ++ ⟨(shN (cnt x.data.toList) x.data.toList).toArray⟩ ++ ⟨#[10, 32, 32]⟩ ++ blB (wid (ahN (col - 1).toNat x.data.toList)).toNat ++ ⟨#[94, 10]⟩) else hedB n c l col := by
    unfold showB; rw [hx]
  rw [hfin]
  clear hfin hx
  generalize hedB n c l col = Hd at *
  have hCn : colophonref01_Count.f x = some (cnt x.data.toList : Int) := by unfold colophonref01_Count.f; rw [if_pos (by omega)]
  unfold colophonref20_Show.f
  simp only [hH, hL, Option.bind_some]
  cases is with
  | false =>
    refine ⟨0 + 1, ?_⟩
    rw [if_neg (by decide), if_neg (by decide)]
    rw [colophonref20_Show.j0]
    rw [if_pos rfl]
  | true =>
    simp only [if_true]
    by_cases h1 : col < 1
    · refine ⟨0 + 1, ?_⟩
      rw [if_pos (.inl h1)]
      rw [colophonref20_Show.j0]
      rw [if_pos (by simp [h1])]
    · have hwc : Hid (wrap64 ((cnt x.data.toList : Int) + 1) = (cnt x.data.toList : Int) + 1) := Lib.hid (w64 (cnt x.data.toList + 1) (by omega))
      by_cases h2 : (cnt x.data.toList : Int) + 1 < col
      · refine ⟨0 + 1, ?_⟩
        rw [if_pos (.inr h2)]
        rw [colophonref20_Show.j0]
        rw [if_neg (by simp; omega), hCn, Option.bind_some, hwc.out, if_pos h2]
      · rw [if_neg (not_or.2 ⟨h1, h2⟩)]
        obtain ⟨K, hK⟩ : ∃ K : Nat, col - 1 = (K : Int) := ⟨(col - 1).toNat, by omega⟩
        have hKc : K ≤ cnt x.data.toList := by omega
        have hwm : Hid (wrap64 (col - 1) = (K : Int)) := Lib.hid (by rw [hK]; exact w64 K (by omega))
        have hAl := shN_len (cnt x.data.toList) x.data.toList
        have hHl := shN_len K x.data.toList
        have hah : ahN K x.data.toList = shN K x.data.toList := by unfold ahN; rw [if_pos hKc]
        rw [hK, Int.toNat_natCast, hah]
        have hwl := wid_le (shN K x.data.toList)
        obtain ⟨M, hM⟩ : ∃ M : Nat, wid (shN K x.data.toList) = (M : Int) := ⟨(wid (shN K x.data.toList)).toNat, by omega⟩
        refine ⟨2 * cnt x.data.toList + M + 9 + 1, ?_⟩
        have hS := shown_l0 x K (by omega) (cnt x.data.toList) (2 * cnt x.data.toList + M + 9) 0 0 [] 0 (by omega) (by omega) (by omega) (by simp) (by simp) (by omega)
        simp only [List.drop_zero, List.nil_append, Nat.zero_le, if_true, Nat.sub_zero] at hS
        have hSf : colophonref20_shown.f (2 * cnt x.data.toList + M + 9) x (K : Int) = some (⟨(shN (cnt x.data.toList) x.data.toList).toArray⟩, wid (shN K x.data.toList)) := hS
        rw [colophonref20_Show.j0]
        rw [if_neg (by simp; omega), hCn, Option.bind_some, hwc.out, if_neg (by omega), hwm.out, hSf, Option.bind_some]
        rw [hM, Int.toNat_natCast]
        have hAs : (⟨(shN (cnt x.data.toList) x.data.toList).toArray⟩ : ByteArray).size ≤ 4 * cnt x.data.toList := by show (List.toArray _).size ≤ _; simpa using hAl
        generalize (⟨(shN (cnt x.data.toList) x.data.toList).toArray⟩ : ByteArray) = A at *
        have e2 : (⟨#[32, 32]⟩ : ByteArray).size = 2 := rfl
        have e3 : (⟨#[10, 32, 32]⟩ : ByteArray).size = 3 := rfl
        dsimp only
        rw [if_pos (by omega), if_pos (by rw [ByteArray.size_append, e2]; omega), if_pos (by rw [ByteArray.size_append, ByteArray.size_append, e2]; omega)]
        exact blanks_l0 _ (by rw [ByteArray.size_append, ByteArray.size_append, ByteArray.size_append, e2, e3]; omega) M (by omega) M _ 0 (by omega) (by omega)
end Go.Proofs.YtdphhmigbbgjmaaDoor
