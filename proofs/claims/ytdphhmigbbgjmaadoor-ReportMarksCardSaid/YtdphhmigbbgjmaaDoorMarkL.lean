/- The third law of report: of every place of a source there is a mark, and what is told is good. Conditions: the tables of report and of utf8 lie as laid. -/
import Derived.Test.YtdphhmigbbgjmaaDoorR6
import Derived.Test.YtdphhmigbbgjmaaDoorR9
import Derived.Test.YtdphhmigbbgjmaaDoorVal
import Derived.Test.YtdphhmigbbgjmaaDoorR8
namespace Go.Proofs.YtdphhmigbbgjmaaDoor
open Go.RowKit Go.Lib
attribute [local go_sem] byteAt_get wrap64_byteAt
set_option linter.unusedVariables false
set_option linter.unusedSimpArgs false
/-- The tables that this law reads. -/
structure MarkW (w : World) : Prop where
  r : RepW w
  u : Lib.Utf8Tabs 1 2 w
theorem MarkW.below {w w' : World} (h : MarkW w) (hb : Below w.heap.size w w') : MarkW w' := ⟨h.r.below hb, Utf8Tabs_below h.u hb⟩
theorem char_Valid (s : ByteArray) (w : World) (hs : s.size ≤ 9223372036854775807) (hT : MarkW w) :
    Calls Tryd.prog 32 #[.string s] w fun e w' => e = .returned (.bool (Lib.validD s.data.toList)) ∧ Below w.heap.size w w' := by
  have h := Tryd.utf8_ValidString s w hs hT.u
  generalize Lib.validD s.data.toList = V at *
  go_enter Tryd.func32, Tryd.ntmps32
  go_wp2_with fail
  refine h.mono ?_
  rintro e w1 ⟨rfl, hb⟩
  go_wp2_with fail
  go_ret
  exact ⟨rfl, hb⟩
/-- A walk through the bytes of a text of which none is a control but a line's end: how many there are of those. -/
theorem count_step (R : ByteArray) (k : Nat) (h : k < R.size) : (R.data.toList.take (k + 1)).count 10 = (R.data.toList.take k).count 10 + if byteAt R k = 10 then 1 else 0 := by
  have hl : k < R.data.toList.length := by rw [size_len]; exact h
  rw [List.take_succ_eq_append_getElem hl, List.count_append]
  congr 1
  have e : byteAt R k = (R.data.toList[k]).toNat := by unfold byteAt; rw [List.getD_eq_getElem?_getD, List.getElem?_eq_getElem hl]; rfl
  rw [e]
  by_cases hx : R.data.toList[k] = 10
  · rw [hx]; rfl
  · have : ¬ (R.data.toList[k]).toNat = 10 := fun h => hx (by apply UInt8.toNat_inj.1; rw [h]; rfl)
    rw [if_neg this]
    simp only [List.count_cons, List.count_nil]
    rw [if_neg (by simpa using hx)]
theorem low_is (R : ByteArray) (k : Nat) (h : k < R.size) (hg : ∀ x ∈ R.data.toList, x.toNat < 32 → x = 10) (hlt : byteAt R k < 32) : byteAt R k = 10 := by
  have hl : k < R.data.toList.length := by rw [size_len]; exact h
  have e : byteAt R k = (R.data.toList[k]).toNat := by unfold byteAt; rw [List.getD_eq_getElem?_getD, List.getElem?_eq_getElem hl]; rfl
  rw [e] at hlt ⊢
  rw [hg _ (List.getElem_mem hl) hlt]; rfl
theorem isB_end (l : Bs) : ∀ (m o : Nat), IsB l o → l.length - o = m → IsB l l.length := by
  intro m
  induction m using Nat.strongRecOn with
  | _ m ih =>
    intro o h hm
    by_cases e : l.drop o = []
    · have h1 := h.le
      have : l.length ≤ o := by have := congrArg List.length e; rw [List.length_drop] at this; simp at this; omega
      rw [show l.length = o by omega]; exact h
    · have h1 := decL_pos (l.drop o)
      have h2 := decL_le _ e
      rw [List.length_drop] at h2
      have h0 := h.le
      have hl : o < l.length := by
        rcases Nat.lt_or_ge o l.length with h | h
        · exact h
        · exact absurd (List.drop_eq_nil_of_le h) e
      exact ih (l.length - (o + (decodeL (l.drop o)).2)) (by omega) _ (h.next e) rfl
theorem CB_size (s : ByteArray) : CB s s.size := by
  refine ⟨Nat.le_refl _, ?_⟩
  have := isB_end (s.data.toList.drop (fromAt s s.size)) _ 0 (.zero _) rfl
  rw [List.length_drop, size_len] at this
  exact this
theorem mark_at (R : ByteArray) (p : Bs) (h : R.data.toList = p ++ [94, 10]) : 2 ≤ R.size ∧ byteAt R (R.size - 2) = 94 := by
  have hl : R.size = p.length + 2 := by rw [← size_len, h]; simp
  refine ⟨by omega, ?_⟩
  unfold byteAt
  rw [h, show R.size - 2 = p.length by omega]
  simp [List.getD_eq_getElem?_getD]
theorem row_cell (os : List Nat) (n : Nat) {w : World} {B : Nat} {ra : Option Addr} {rc : Nat} (h : w.ownsRow B 3 1 (.slice ra (os.length + 1) rc) (os.length + 1) (os.map iV ++ [.int .i64 n])) (i : Nat) (hi : i < os.length + 1) :
    ∃ g, ra = some ⟨g, 0, none⟩ ∧ g < w.heap.size ∧ w.cell? ⟨g, i, none⟩ = some (.int .i64 ((os ++ [n]).getD i 0)) := by
  have h' := h
  rcases h.2 with ⟨he, h0⟩ | ⟨g, cap, cur, he, hB, hg, hle, hm, hsz, ht⟩
  · omega
  · injection he with e1 e2 e3
    subst e1
    refine ⟨g, rfl, (Array.getElem?_eq_some_iff.1 hg).1, ?_⟩
    have hv : (os.map iV ++ [.int .i64 n])[i]? = some (.int .i64 ((os ++ [n]).getD i 0)) := by
      by_cases hl : i < os.length
      · rw [List.getElem?_append_left (by simpa using hl), List.getD_eq_getElem?_getD, List.getElem?_append_left hl]
        simp [iV, hl]
      · rw [List.getElem?_append_right (by simp; omega), List.getD_eq_getElem?_getD, List.getElem?_append_right (by omega)]
        rw [show i - (os.map iV).length = 0 by simp; omega, show i - os.length = 0 by omega]; rfl
    have := World.ownsRow.cells h' (g := g) rfl i _ hv
    rwa [at_off] at this
theorem rem_nat (A : Int) (n : Nat) (h : 0 ≤ A) : A % ((n : Int) + 1) = ((A.toNat % (n + 1) : Nat) : Int) := by
  rw [Int.natCast_emod, Int.toNat_of_nonneg h]; rfl
theorem key_at (s : ByteArray) (os : List Nat) (i : Nat) (hi : i < os.length + 1) (h : ∀ i (hi : i < (os ++ [s.size]).length), (os ++ [s.size])[i] ≤ s.size ∧ CB s (os ++ [s.size])[i]) : (os ++ [s.size]).getD i 0 ≤ s.size ∧ CB s ((os ++ [s.size]).getD i 0) := by
  have hl : i < (os ++ [s.size]).length := by simp; omega
  rw [List.getD_eq_getElem?_getD, List.getElem?_eq_getElem hl]; exact h i hl
theorem showB_size (s : ByteArray) (l c : Int) (hs : s.size ≤ 1073741824) (hl : inI l) (hc : inI c) : (showB ⟨#[]⟩ s 1 l c).size ≤ 1099511627776 := by
  have hH := hedB_size ⟨#[]⟩ 1 l c (by decide) hl hc
  have e0 : (⟨#[]⟩ : ByteArray).size = 0 := rfl
  have hxs := lineT_size s l
  have hN := cnt_le (lineT s.data.toList l).1.data.toList
  rw [size_len] at hN
  have hA := shN_len (cnt (lineT s.data.toList l).1.data.toList) (lineT s.data.toList l).1.data.toList
  have hW := wid_le (ahN (c - 1).toNat (lineT s.data.toList l).1.data.toList)
  have hB : (ahN (c - 1).toNat (lineT s.data.toList l).1.data.toList).length ≤ 4 * s.size := by
    unfold ahN
    split
    · have := shN_len (c - 1).toNat (lineT s.data.toList l).1.data.toList; omega
    · exact Nat.zero_le _
  unfold showB
  split
  · split
    · omega
    · have e2 : (⟨#[32, 32]⟩ : ByteArray).size = 2 := rfl
      have e3 : (⟨#[10, 32, 32]⟩ : ByteArray).size = 3 := rfl
      have e4 : (⟨#[94, 10]⟩ : ByteArray).size = 2 := rfl
      have hb : (blB (wid (ahN (c - 1).toNat (lineT s.data.toList l).1.data.toList)).toNat).size = (wid (ahN (c - 1).toNat (lineT s.data.toList l).1.data.toList)).toNat := by
        unfold blB; show (List.toArray _).size = _; rw [List.size_toArray, Lib.repeatL_length]; simp
      have ha : (⟨(shN (cnt (lineT s.data.toList l).1.data.toList) (lineT s.data.toList l).1.data.toList).toArray⟩ : ByteArray).size ≤ 4 * s.size := by
        show (List.toArray _).size ≤ _; rw [List.size_toArray]; omega
      rw [ByteArray.size_append, ByteArray.size_append, ByteArray.size_append, ByteArray.size_append, ByteArray.size_append, hb, e2, e3, e4]
      omega
  · omega
set_option maxRecDepth 100000 in
set_option maxHeartbeats 16000000 in
theorem law20_Marks (s : ByteArray) (x : Int) (hx : inI x) (w : World) (hT : MarkW w) :
    Calls Tryd.prog 10 #[.string s, .int .i64 x] w fun e w' => e = .returned (.bool true) ∧ Below w.heap.size w w' := by
  obtain ⟨i0, hi, hz0, hz1, hz2⟩ := info_parts Tryd.info3
  have hi := Lib.hid hi; have hz0 := Lib.hid hz0; have hz1 := Lib.hid hz1; have hz2 := Lib.hid hz2
  have hb0 := Below.refl w.heap.size w
  have hTe : ∀ W, Below w.heap.size w W → MarkW W := fun W h => hT.below h
  replace hTe := Lib.hid hTe
  clear hT
  unfold inI at hx
  go_enter Tryd.func10, Tryd.ntmps10
  go_wp2_with fail
  refine (law20_awake _ (hTe.out _ hb0).r).mono ?_
  rintro e w1 ⟨rfl, hb⟩
  replace hb0 := hb0.trans (hb.mono hb0.size)
  clear hb
  by_cases hbig : (4194304 : Int) < (s.size : Int)
  · go_wp2_with fail
    go_ret
    exact ⟨rfl, hb0⟩
  · have hs2 : s.size ≤ 4194304 := by omega
    have hPl := fun W => char_Places s W (by omega)
    replace hPl := Lib.hid hPl
    have hkey : ∀ (os : List Nat), os = offs s.data.toList 0 → ∀ i (hi : i < (os ++ [s.size]).length), (os ++ [s.size])[i] ≤ s.size ∧ CB s (os ++ [s.size])[i] := fun os hos i hi => by
      by_cases h : i < os.length
      · rw [List.getElem_append_left h]
        have := offs_all s i (by rw [← hos]; exact h)
        subst hos
        exact ⟨by omega, this.2.1⟩
      · rw [List.getElem_append_right (by omega)]
        simp only [List.getElem_singleton]
        refine ⟨Nat.le_refl _, ?_⟩
        exact CB_size s
    replace hkey := Lib.hid hkey
    by_cases hneg : x < 0
    · go_wp2_with fail
      have hA0 : 0 ≤ -(x + 1) := by omega
      have hA1 : -(x + 1) ≤ 9223372036854775807 := by omega
      generalize -(x + 1) = A at *
      clear hx hneg hbig
      refine (hPl.out _).mono ?_
      rintro e w2 ⟨v, rfl, hown, hb⟩
      have hy1 := hb0.size
      have hy2 := hb.size
      have hb1 := hb0.trans (hb.mono hy1)
      obtain ⟨os, hos⟩ : ∃ os, os = offs s.data.toList 0 := ⟨_, rfl⟩
      have hlen : cnt s.data.toList = os.length := by rw [hos, offs_len]
      have hl4 : os.length ≤ s.size := by rw [← hlen]; have := cnt_le s.data.toList; rw [size_len] at this; exact this
      have hk2 := hkey.out os hos
      rw [hlen, ← hos] at hown
      clear hlen hos hkey hPl hb
      replace hk2 := Lib.hid hk2
      go_wp2_with (at_builtin; refine wpList_append_own _ rfl _ _ 63 rfl (w1.heap.size + 1) 3 i0 (.int .i64 0) 1 8 Tryd.underlying63 hi.out hz0.out hz1.out hz2.out rfl (by decide) _ _ _ rfl (hown.alloc _) ⟨w2.heap.size, 0, none⟩ 1 1 [.int .i64 s.size] rfl rfl (cell_one_new _ _ _) (by simp [Value.oneCell']) (by unfold maxLen; omega) (by omega) (by simp; omega) ?_; intro v' w3 hown' hgrow _; have hb2 := (hb1.alloc hb1.size (.cells #[.int .i64 s.size] 3)).grown hgrow (by simp; omega) (fun k e => by have := (hown.lt k e).1; omega); obtain ⟨ra, rc, rfl⟩ := ownsRow_shape hown'; obtain ⟨g, rfl, hg1, hg2⟩ := row_cell os s.size hown' (A.toNat % (os.length + 1)) (Nat.mod_lt _ (Nat.succ_pos _)); have hI : A.toNat % (os.length + 1) < os.length + 1 := Nat.mod_lt _ (Nat.succ_pos _); have hrem := rem_nat A os.length hA0; have hko := key_at s os _ hI hk2.out; generalize A.toNat % (os.length + 1) = I at *; generalize (os ++ [s.size]).getD I 0 = o at *; clear hown hgrow hown' hk2)
      have hOf := fun W => place_Of s o W (by omega) hko.1
      simp only [adv_at s o hko.1 (by omega)] at hOf
      refine (hOf _).mono ?_
      rintro e w4 ⟨rfl, hb⟩
      have hb3 := hb2.trans (hb.mono hb2.size)
      clear hb hb2 hOf hrem hg1 hg2
      have hmg := mark_good s o hko.2
      have hL : inI ((nlAt s o + 1 : Nat) : Int) := by have h := nlAt_le s o; have := hko.1; unfold inI; omega
      have hC : inI ((colN s o + 1 : Nat) : Int) := by have h := colN_le s o; have := hko.1; unfold inI; omega
      have hoI : inI (o : Int) := by have := hko.1; unfold inI; omega
      have hy4 := hb3.size
      have hbA := (hb3.alloc hb3.size (.cells #[.int .i64 o, .int .i64 ((nlAt s o + 1 : Nat) : Int), .int .i64 ((colN s o + 1 : Nat) : Int)] 26)).alloc (by simp; omega) (.cells #[.int .i64 1, .int .i64 o, .int .i64 ((nlAt s o + 1 : Nat) : Int), .int .i64 ((colN s o + 1 : Nat) : Int)] 52)
      have hBk := Blk.new (w4.alloc (.cells #[.int .i64 o, .int .i64 ((nlAt s o + 1 : Nat) : Int), .int .i64 ((colN s o + 1 : Nat) : Int)] 26)) #[.int .i64 1, .int .i64 o, .int .i64 ((nlAt s o + 1 : Nat) : Int), .int .i64 ((colN s o + 1 : Nat) : Int)] 52
      rw [World.size_alloc] at hBk
      have hSh := report_Show_A ⟨#[]⟩ s (w4.heap.size + 1) 1 o _ _ _ (Nat.zero_le _) (by omega) (by decide) hL hC (hTe.out _ hbA).r hBk
      have hRs : (showB ⟨#[]⟩ s 1 ((nlAt s o + 1 : Nat) : Int) ((colN s o + 1 : Nat) : Int)).size ≤ 1099511627776 := showB_size s _ _ (by omega) hL hC
      generalize showB ⟨#[]⟩ s 1 ((nlAt s o + 1 : Nat) : Int) ((colN s o + 1 : Nat) : Int) = R at *
      push_cast at hSh hbA
      obtain ⟨hg32, hc3, hval, p, hp⟩ := hmg
      have hm94 := mark_at R p hp
      replace hg32 := Lib.hid hg32; replace hc3 := Lib.hid hc3; replace hval := Lib.hid hval; replace hSh := Lib.hid hSh
      clear hp hL hC hoI hBk hko hy4
      go_wp2_with fail
      refine hSh.out.mono ?_
      rintro e w5 ⟨rfl, hb⟩
      have hb5 := hbA.trans (hb.mono hbA.size)
      clear hb hbA hb3 hSh
      go_wp2_with fail
      have hT5 := hTe.out _ hb5
      have hVal := char_Valid R w5 (by omega) hT5
      rw [hval.out] at hVal
      replace hVal := Lib.hid hVal
      clear hT5 hval hTe
      go_loop [10, 11] (fun cc ii => ∃ k : Nat, ii = .int .i64 k ∧ cc = .int .i64 ((R.data.toList.take k).count 10 : Nat) ∧ k ≤ R.size) (fun _ i => R.size - (RowKit.intOf i).toNat)
      case atStart => exact ⟨0, rfl, by simp, Nat.zero_le _⟩
      case round =>
        obtain ⟨k, rfl, rfl, hk⟩ := hrel
        have hcl : (R.data.toList.take k).count 10 ≤ k := by have := List.count_le_length (a := (10 : UInt8)) (l := R.data.toList.take k); rw [List.length_take] at this; omega
        by_cases hlt : k < R.size
        · have hbl := byteAt_lt R k
          have hcs := count_step R k hlt
          by_cases h10 : byteAt R k = 10
          · rw [if_pos h10] at hcs
            have x1 : ((byteAt R k : Int) != 10) = false := by simp [h10]
            have x2 : ((byteAt R k : Int) == 10) = true := by simp [h10]
            have x3 : (byteAt R k : Int) < 32 := by omega
            generalize (R.data.toList.take k).count 10 = C at *
            clear h10
            replace hcs := Lib.hid hcs
            go_wp2
            go_round
            case rel => exact ⟨k + 1, by go_num, by rw [hcs.out]; go_num, by omega⟩
            case measure => first | (simp [RowKit.intOf]; done) | (simp [RowKit.intOf]; omega)
          · rw [if_neg h10, Nat.add_zero] at hcs
            have x3 : ¬ ((byteAt R k : Int) < 32) := fun h => h10 (low_is R k hlt hg32.out (by omega))
            have x2 : ((byteAt R k : Int) == 10) = false := by simp; omega
            generalize (R.data.toList.take k).count 10 = C at *
            clear h10
            replace hcs := Lib.hid hcs
            go_wp2
            go_round
            case rel => exact ⟨k + 1, by go_num, by rw [hcs.out]; rfl, by omega⟩
            case measure => first | (simp [RowKit.intOf]; done) | (simp [RowKit.intOf]; omega)
        · obtain rfl : k = R.size := by omega
          have h3 : (R.data.toList.take R.size).count 10 = 3 := by rw [List.take_of_length_le (by rw [size_len]; exact Nat.le_refl _)]; exact hc3.out
          rw [h3]
          obtain ⟨n2, hn2⟩ : ∃ n2 : Nat, R.size = n2 + 2 := ⟨R.size - 2, by omega⟩
          have hn3 : (R.size : Int) - 2 = (n2 : Int) := by omega
          have hn4 : n2 < R.size := by omega
          have hv : byteAt R n2 = 94 := by have := hm94.2; rwa [show R.size - 2 = n2 by omega] at this
          clear hm94 hg32 hc3 h3 hn2 hcl hlt
          go_wp2_with fail
          refine hVal.out.mono ?_
          rintro e w6 ⟨rfl, hb⟩
          have hb6 := hb5.trans (hb.mono hb5.size)
          clear hb hVal
          go_wp2_with fail
          go_ret
          exact ⟨rfl, hb6⟩
    · have hA0 : 0 ≤ x := by omega
      have hA1 : x ≤ 9223372036854775807 := by omega
      go_wp2_with fail
      generalize x = A at *
      clear hx hneg hbig
      refine (hPl.out _).mono ?_
      rintro e w2 ⟨v, rfl, hown, hb⟩
      have hy1 := hb0.size
      have hy2 := hb.size
      have hb1 := hb0.trans (hb.mono hy1)
      obtain ⟨os, hos⟩ : ∃ os, os = offs s.data.toList 0 := ⟨_, rfl⟩
      have hlen : cnt s.data.toList = os.length := by rw [hos, offs_len]
      have hl4 : os.length ≤ s.size := by rw [← hlen]; have := cnt_le s.data.toList; rw [size_len] at this; exact this
      have hk2 := hkey.out os hos
      rw [hlen, ← hos] at hown
      clear hlen hos hkey hPl hb
      replace hk2 := Lib.hid hk2
      go_wp2_with (at_builtin; refine wpList_append_own _ rfl _ _ 63 rfl (w1.heap.size + 1) 3 i0 (.int .i64 0) 1 8 Tryd.underlying63 hi.out hz0.out hz1.out hz2.out rfl (by decide) _ _ _ rfl (hown.alloc _) ⟨w2.heap.size, 0, none⟩ 1 1 [.int .i64 s.size] rfl rfl (cell_one_new _ _ _) (by simp [Value.oneCell']) (by unfold maxLen; omega) (by omega) (by simp; omega) ?_; intro v' w3 hown' hgrow _; have hb2 := (hb1.alloc hb1.size (.cells #[.int .i64 s.size] 3)).grown hgrow (by simp; omega) (fun k e => by have := (hown.lt k e).1; omega); obtain ⟨ra, rc, rfl⟩ := ownsRow_shape hown'; obtain ⟨g, rfl, hg1, hg2⟩ := row_cell os s.size hown' (A.toNat % (os.length + 1)) (Nat.mod_lt _ (Nat.succ_pos _)); have hI : A.toNat % (os.length + 1) < os.length + 1 := Nat.mod_lt _ (Nat.succ_pos _); have hrem := rem_nat A os.length hA0; have hko := key_at s os _ hI hk2.out; generalize A.toNat % (os.length + 1) = I at *; generalize (os ++ [s.size]).getD I 0 = o at *; clear hown hgrow hown' hk2)
      have hOf := fun W => place_Of s o W (by omega) hko.1
      simp only [adv_at s o hko.1 (by omega)] at hOf
      refine (hOf _).mono ?_
      rintro e w4 ⟨rfl, hb⟩
      have hb3 := hb2.trans (hb.mono hb2.size)
      clear hb hb2 hOf hrem hg1 hg2
      have hmg := mark_good s o hko.2
      have hL : inI ((nlAt s o + 1 : Nat) : Int) := by have h := nlAt_le s o; have := hko.1; unfold inI; omega
      have hC : inI ((colN s o + 1 : Nat) : Int) := by have h := colN_le s o; have := hko.1; unfold inI; omega
      have hoI : inI (o : Int) := by have := hko.1; unfold inI; omega
      have hy4 := hb3.size
      have hbA := (hb3.alloc hb3.size (.cells #[.int .i64 o, .int .i64 ((nlAt s o + 1 : Nat) : Int), .int .i64 ((colN s o + 1 : Nat) : Int)] 26)).alloc (by simp; omega) (.cells #[.int .i64 1, .int .i64 o, .int .i64 ((nlAt s o + 1 : Nat) : Int), .int .i64 ((colN s o + 1 : Nat) : Int)] 52)
      have hBk := Blk.new (w4.alloc (.cells #[.int .i64 o, .int .i64 ((nlAt s o + 1 : Nat) : Int), .int .i64 ((colN s o + 1 : Nat) : Int)] 26)) #[.int .i64 1, .int .i64 o, .int .i64 ((nlAt s o + 1 : Nat) : Int), .int .i64 ((colN s o + 1 : Nat) : Int)] 52
      rw [World.size_alloc] at hBk
      have hSh := report_Show_A ⟨#[]⟩ s (w4.heap.size + 1) 1 o _ _ _ (Nat.zero_le _) (by omega) (by decide) hL hC (hTe.out _ hbA).r hBk
      have hRs : (showB ⟨#[]⟩ s 1 ((nlAt s o + 1 : Nat) : Int) ((colN s o + 1 : Nat) : Int)).size ≤ 1099511627776 := showB_size s _ _ (by omega) hL hC
      generalize showB ⟨#[]⟩ s 1 ((nlAt s o + 1 : Nat) : Int) ((colN s o + 1 : Nat) : Int) = R at *
      push_cast at hSh hbA
      obtain ⟨hg32, hc3, hval, p, hp⟩ := hmg
      have hm94 := mark_at R p hp
      replace hg32 := Lib.hid hg32; replace hc3 := Lib.hid hc3; replace hval := Lib.hid hval; replace hSh := Lib.hid hSh
      clear hp hL hC hoI hBk hko hy4
      go_wp2_with fail
      refine hSh.out.mono ?_
      rintro e w5 ⟨rfl, hb⟩
      have hb5 := hbA.trans (hb.mono hbA.size)
      clear hb hbA hb3 hSh
      go_wp2_with fail
      have hT5 := hTe.out _ hb5
      have hVal := char_Valid R w5 (by omega) hT5
      rw [hval.out] at hVal
      replace hVal := Lib.hid hVal
      clear hT5 hval hTe
      go_loop [10, 11] (fun cc ii => ∃ k : Nat, ii = .int .i64 k ∧ cc = .int .i64 ((R.data.toList.take k).count 10 : Nat) ∧ k ≤ R.size) (fun _ i => R.size - (RowKit.intOf i).toNat)
      case atStart => exact ⟨0, rfl, by simp, Nat.zero_le _⟩
      case round =>
        obtain ⟨k, rfl, rfl, hk⟩ := hrel
        have hcl : (R.data.toList.take k).count 10 ≤ k := by have := List.count_le_length (a := (10 : UInt8)) (l := R.data.toList.take k); rw [List.length_take] at this; omega
        by_cases hlt : k < R.size
        · have hbl := byteAt_lt R k
          have hcs := count_step R k hlt
          by_cases h10 : byteAt R k = 10
          · rw [if_pos h10] at hcs
            have x1 : ((byteAt R k : Int) != 10) = false := by simp [h10]
            have x2 : ((byteAt R k : Int) == 10) = true := by simp [h10]
            have x3 : (byteAt R k : Int) < 32 := by omega
            generalize (R.data.toList.take k).count 10 = C at *
            clear h10
            replace hcs := Lib.hid hcs
            go_wp2
            go_round
            case rel => exact ⟨k + 1, by go_num, by rw [hcs.out]; go_num, by omega⟩
            case measure => first | (simp [RowKit.intOf]; done) | (simp [RowKit.intOf]; omega)
          · rw [if_neg h10, Nat.add_zero] at hcs
            have x3 : ¬ ((byteAt R k : Int) < 32) := fun h => h10 (low_is R k hlt hg32.out (by omega))
            have x2 : ((byteAt R k : Int) == 10) = false := by simp; omega
            generalize (R.data.toList.take k).count 10 = C at *
            clear h10
            replace hcs := Lib.hid hcs
            go_wp2
            go_round
            case rel => exact ⟨k + 1, by go_num, by rw [hcs.out]; rfl, by omega⟩
            case measure => first | (simp [RowKit.intOf]; done) | (simp [RowKit.intOf]; omega)
        · obtain rfl : k = R.size := by omega
          have h3 : (R.data.toList.take R.size).count 10 = 3 := by rw [List.take_of_length_le (by rw [size_len]; exact Nat.le_refl _)]; exact hc3.out
          rw [h3]
          obtain ⟨n2, hn2⟩ : ∃ n2 : Nat, R.size = n2 + 2 := ⟨R.size - 2, by omega⟩
          have hn3 : (R.size : Int) - 2 = (n2 : Int) := by omega
          have hn4 : n2 < R.size := by omega
          have hv : byteAt R n2 = 94 := by have := hm94.2; rwa [show R.size - 2 = n2 by omega] at this
          clear hm94 hg32 hc3 h3 hn2 hcl hlt
          go_wp2_with fail
          refine hVal.out.mono ?_
          rintro e w6 ⟨rfl, hb⟩
          have hb6 := hb5.trans (hb.mono hb5.size)
          clear hb hVal
          go_wp2_with fail
          go_ret
          exact ⟨rfl, hb6⟩
end Go.Proofs.YtdphhmigbbgjmaaDoor
