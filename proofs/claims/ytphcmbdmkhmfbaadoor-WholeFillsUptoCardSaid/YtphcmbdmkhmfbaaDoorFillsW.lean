/- WholeFills: the walk. -/
import Derived.Test.YtphcmbdmkhmfbaaDoorWords
import Derived.Laws.AppendOwnNone
import Derived.Test.YtphcmbdmkhmfbaaDoorArgs8
namespace Go.Proofs.YtphcmbdmkhmfbaaDoor
open Go.RowKit Go.Lib
set_option linter.unusedVariables false
set_option linter.unusedSimpArgs false
def pcs (i : Nat) (x : Wd) : List DocV := if i = 0 then [txD ⟨x.2.toArray⟩] else [gpD x.1, txD ⟨x.2.toArray⟩]
theorem tlP_snoc : ∀ (P : List Wd) (x : Wd), tlP (P ++ [x]) = tlP P ++ [gpD x.1, txD ⟨x.2.toArray⟩]
  | [], x => rfl
  | (g, w) :: r, x => by simp [tlP, tlP_snoc r x]
theorem layP_snoc (P : List Wd) (x : Wd) : layP (P ++ [x]) = layP P ++ pcs P.length x := by
  cases P with
  | nil => rfl
  | cons y r => obtain ⟨g, w⟩ := y; simp [layP, tlP_snoc, pcs]
theorem total_snoc : ∀ (P : List Wd) (x : Wd), total (P ++ [x]) = total P + (x.1 + x.2.length)
  | [], x => by simp [total]
  | (g, w) :: r, x => by simp [total, total_snoc r x]; omega
theorem sumP_snoc (P : List Wd) (x : Wd) : sumP (P ++ [x]) = sumP P + ((if P.length = 0 then 0 else x.1) + x.2.length) := by
  cases P with
  | nil => simp [sumP, total]
  | cons y r => obtain ⟨g, w⟩ := y; simp [sumP, total_snoc]; omega
theorem right_tx (g : Nat) (w : List UInt8) (h : w ≠ [] ∧ g ≤ 1000 ∧ w.length ≤ 65535 ∧ ∀ c ∈ w, 33 ≤ c.toNat ∧ c.toNat ≤ 126) : rightB (txD ⟨w.toArray⟩) = true ∧ rightB (gpD g) = true := by
  have hs : (⟨w.toArray⟩ : ByteArray).size = w.length := size_arr w
  have hpos : 0 < w.length := List.length_pos_iff.2 h.1
  have hb : ∀ i, i < w.length → edgeN (byteAt ⟨w.toArray⟩ i) = false := fun i hi => by
    have : byteAt ⟨w.toArray⟩ i = (w[i]'hi).toNat := by
      unfold byteAt; rw [toList_arr, List.getD_eq_getElem?_getD, List.getElem?_eq_getElem hi]; rfl
    rw [this]
    have := h.2.2.2 _ (List.getElem_mem hi)
    simp [edgeN]; omega
  refine ⟨?_, ?_⟩
  · unfold rightB txD
    simp only [if_true, hs]
    rw [hb 0 hpos, hb (w.length - 1) (by omega)]
    simp; omega
  · have h1 : (0 : Int) ≤ (g : Int) ∧ (g : Int) ≤ 1000 := by omega
    simp [rightB, gpD, h1, ByteArray.size]
theorem formAt_flat : ∀ (L E : List DocV) (i : Nat) (o : Int), (∀ d ∈ L, rightB d = true ∧ ¬ d.k = 6 ∧ ¬ d.k = 7) → (formAt (L ++ E) i o = -1 ↔ formAt E i o = -1)
  | [], E, i, o, _ => by simp
  | d :: r, E, i, o, h => by
    obtain ⟨h1, h6, h7⟩ := h d (by simp)
    have ho : opens d = 0 := by simp [opens, h6, h7]
    rw [List.cons_append, formAt_cons, if_neg (by rw [h1]; simp [h7]), ho, Int.add_zero, formAt_flat r E (i + 1) o (fun x hx => h x (by simp [hx]))]
    exact formAt_shift E _ _ _
theorem lay_right (P : List Wd) (h : LetP P) : ∀ d ∈ layP P, rightB d = true ∧ ¬ d.k = 6 ∧ ¬ d.k = 7 := by
  have ht : ∀ (P : List Wd), LetP P → ∀ d ∈ tlP P, rightB d = true ∧ ¬ d.k = 6 ∧ ¬ d.k = 7 := fun P => by
    induction P with
    | nil => intro _ d hd; simp [tlP] at hd
    | cons x r ih =>
      intro h d hd
      obtain ⟨g, w⟩ := x
      have hr := right_tx g w (h (g, w) (by simp))
      simp only [tlP, List.mem_cons] at hd
      rcases hd with rfl | rfl | hd
      · exact ⟨hr.2, by simp [gpD], by simp [gpD]⟩
      · exact ⟨hr.1, by simp [txD], by simp [txD]⟩
      · exact ih h.tail d hd
  cases P with
  | nil => intro d hd; simp [layP] at hd
  | cons x r =>
    obtain ⟨g, w⟩ := x
    have hr := right_tx g w (h (g, w) (by simp))
    intro d hd
    simp only [layP, List.mem_cons] at hd
    rcases hd with rfl | hd
    · exact ⟨hr.1, by simp [txD], by simp [txD]⟩
    · exact ht r h.tail d hd
theorem form_lay (P : List Wd) (h : LetP P) : formAt (layP P) 0 0 = -1 := by
  have := (formAt_flat (layP P) [] 0 0 (lay_right P h)).2 (by decide)
  simpa using this
theorem form_block (P : List Wd) (h : LetP P) (inn : Nat) (hin : inn ≤ 1000) (ev : Bool) : formAt (bgD inn ev :: layP P ++ [kD 7]) 0 0 = -1 := by
  have hb : rightB (bgD inn ev) = true := by
    have h1 : (0 : Int) ≤ (inn : Int) ∧ (inn : Int) ≤ 1000 := by omega
    simp [rightB, bgD, h1, ByteArray.size]
  rw [List.cons_append, formAt_cons, if_neg (by rw [hb]; simp [bgD])]
  have ho : (0 : Int) + opens (bgD inn ev) = 1 := by simp [opens, bgD]
  rw [ho]
  rw [formAt_flat (layP P) [kD 7] 1 1 (lay_right P h)]
  decide
theorem lay_len : ∀ (P : List Wd), (layP P).length ≤ 2 * P.length
  | [] => by simp [layP]
  | (g, w) :: r => by
    have : ∀ (P : List Wd), (tlP P).length = 2 * P.length := fun P => by
      induction P with
      | nil => rfl
      | cons x r ih => obtain ⟨g, w⟩ := x; simp [tlP, ih]; omega
    simp [layP, this]; omega
theorem cost_app : ∀ (A B : List DocV), cost (A ++ B) = cost A + cost B
  | [], B => by simp [cost]
  | a :: r, B => by simp only [List.cons_append, cost, cost_app r B]; omega
theorem cost_lay (P : List Wd) (h : LetP P) : cost (layP P) ≤ 70000 * P.length := by
  have ht : ∀ (P : List Wd), LetP P → cost (tlP P) ≤ 70000 * P.length := fun P => by
    induction P with
    | nil => intro _; simp [tlP, cost]
    | cons x r ih =>
      intro h
      obtain ⟨g, w⟩ := x
      have h1 := (h (g, w) (by simp)).2.2.1
      have := ih h.tail
      have h0 : (⟨#[]⟩ : ByteArray).size = 0 := rfl
      simp only [tlP, cost, txD, gpD, h0, size_arr, List.length_cons, List.length_nil]
      simp only at h1
      omega
  cases P with
  | nil => simp [layP, cost]
  | cons x r =>
    obtain ⟨g, w⟩ := x
    have h1 := (h (g, w) (by simp)).2.2.1
    have := ht r h.tail
    simp only [layP, cost, txD, size_arr, List.length_cons]
    simp only at h1
    omega
theorem total_le (P : List Wd) (h : LetP P) : total P ≤ 70000 * P.length := by
  induction P with
  | nil => simp [total]
  | cons x r ih =>
    obtain ⟨g, w⟩ := x
    have h1 := h (g, w) (by simp)
    have := ih h.tail
    simp only [total, List.length_cons]
    simp only at h1
    omega
theorem sumP_le (P : List Wd) (h : LetP P) : sumP P ≤ 70000 * P.length := by
  cases P with
  | nil => simp [sumP]
  | cons x r =>
    obtain ⟨g, w⟩ := x
    have h1 := h (g, w) (by simp)
    have := total_le r h.tail
    simp only [sumP, List.length_cons]
    simp only at h1
    omega
theorem prRes_ok (W : Int) (L : List DocV) (hW : 1 ≤ W ∧ W ≤ 4096) (hf : formAt L 0 0 = -1) : prRes W L = .tuple #[.string ⟨(prAll W L).toArray⟩, .int .i64 0] := by
  unfold prRes; rw [if_neg (by omega), if_neg (by simp [hf])]
theorem LetP.take {P : List Wd} (h : LetP P) (i : Nat) : LetP (P.take i) := fun x hx => h x (List.mem_of_mem_take hx)
theorem blk_docs {w : World} {g : Nat} {L : List DocV} (cs : Array Value) (h : Blk w g cs TD) (hc : cs = (L.flatMap DocV.cells).toArray) (hl : L.length ≤ 9223372036854775807) (B : Nat) (hB : B ≤ g) : RowD w B (.slice (some ⟨g, 0, none⟩) L.length L.length) L := by
  subst hc
  refine ⟨flat_len L, .inr ⟨g, L.length, _, rfl, hB, h, Nat.le_refl _, by unfold maxLen; omega, by rw [List.size_toArray, flat_len], List.take_of_length_le (by rw [flat_len]; exact Nat.le_refl _)⟩⟩
theorem app_rowD {w : World} {ops : Array Oper} {rest : List Oper} {o : Oper} {a : Act} {Q : Exit → Act → World → Prop} (hgd : o.guard = none) (s x : Operand)
    (ho : o.op = .call { callee := .builtin .append, args := #[s, x], argTypes := #[44, 44] }) (base : Nat) {v sv : Value} {L M : List DocV} (hs : a.eval s = v) (hown : RowD w base v L) (hx : a.eval x = sv) {B : Nat} (hsrc : RowD w B sv M)
    (hb : L.length + M.length ≤ 2097152) (hbase : base ≤ w.heap.size) (h : ∀ v' w', RowD w' base v' (L ++ M) → w.grownBy w' v.ownBlock → Next w v v' → wpList Tryd.prog ops Q rest (a.put o.dst v') w') : wpList Tryd.prog ops Q (o :: rest) a w := by
  rcases hsrc.2 with ⟨hnil, hlen⟩ | ⟨gp, cap', cur, hv', hgp, hcur, hle, _⟩
  · have hM : M = [] := List.length_eq_zero_iff.1 hlen
    subst hM
    obtain ⟨i0, hi, hz0, hz1, hz2⟩ := info_parts infoD
    rw [hnil] at hx
    refine wpList_append_own_none hgd s x 44 ho base TD i0 5 Tryd.underlying44 hi v L.length (L.flatMap DocV.cells) hs hown hx ?_
    exact h v w (by rw [List.append_nil]; exact hown) (World.grownBy.refl _ _) (Next.refl _ _)
  · rw [hv'] at hx
    refine app_at hgd s x 44 TD ho base Tryd.underlying44 infoD rfl (by decide) hs hown ⟨gp, 0, none⟩ M.length cap' (M.flatMap DocV.cells) hx (flat_len M) (World.ownsRow.cells hsrc (g := gp) (by rw [hv']; rfl)) (docs_one_cells M) (by omega) (by omega) hbase ?_
    intro v' w' h1 h2 h3
    exact h v' w' (RowD.more h1) h2 h3
theorem RowD.shape {w : World} {B : Nat} {v : Value} {d : DocV} {L : List DocV} (h : RowD w B v (d :: L)) : ∃ g cap, v = .slice (some ⟨g, 0, none⟩) (L.length + 1) cap := by
  rcases h.2 with ⟨_, h2⟩ | ⟨g, cap, cur, h1, _⟩
  · simp at h2
  · exact ⟨g, cap, by simpa using h1⟩
set_option maxHeartbeats 16000000 in
set_option maxRecDepth 100000 in
theorem law_fills (N I : Int) (aR : Option Addr) (cR : Nat) (R : List (Int × Int)) (w : World) (hR : Raws w aR R) (hRl : R.length ≤ 1048576) (hwf : ∀ x ∈ R, (-9223372036854775808 ≤ x.1 ∧ x.1 ≤ 9223372036854775807) ∧ (-9223372036854775808 ≤ x.2 ∧ x.2 ≤ 9223372036854775807))
    (hN : -9223372036854775808 ≤ N ∧ N ≤ 9223372036854775807) (hI : -9223372036854775808 ≤ I ∧ I ≤ 9223372036854775807) (hT : Tabs w) (hg1 : 0 < w.heap.size) (hg2 : 1 < w.heap.size) :
    Calls Tryd.prog 10 #[.int .i64 N, .int .i64 I, .slice aR R.length cR] w fun e w' => e = .returned (.bool true) ∧ Below w.heap.size w w' := by
  have haw := fun w2 (h : Below w.heap.size w w2) => awake8 w2 (hT.below h) (Nat.lt_of_lt_of_le hg1 h.size) (Nat.lt_of_lt_of_le hg2 h.size)
  have hpn := pickV_rng N 40 (by decide)
  have hpi := pickV_rng I 12 (by decide)
  obtain ⟨inn, hinn⟩ : ∃ inn : Nat, pickV I 12 = inn := ⟨(pickV I 12).toNat, by omega⟩
  obtain ⟨n, hn⟩ : ∃ n : Int, 1 + pickV N 40 = n := ⟨_, rfl⟩
  have hnr : 1 ≤ n ∧ n ≤ 40 := by omega
  have hir : inn ≤ 11 := by omega
  have wn : IntKind.i64.wrap (1 + pickV N 40) = n := by rw [hn]; exact IntWalk.i64_in _ (by omega)
  have hwords := l8_words aR cR R w hR hRl hwf
  obtain ⟨P, hP⟩ : ∃ P, wds R = P := ⟨_, rfl⟩
  have hPl : P.length ≤ 300 := by rw [← hP]; unfold wds; rw [wdsFrom_len, List.length_take]; omega
  have hPo : LetP P := by rw [← hP]; exact wdsFrom_ok _ _
  have hpr : ∀ (L : List DocV) (hf : formAt L 0 0 = -1) (hl : L.length ≤ 2097152) (hc : cost L ≤ 17179869184) (ao : Option Addr) (cap : Nat) (W : World), Below w.heap.size w W → Docs W ao L → Calls Tryd.prog 28 #[.int .i64 n, .slice ao L.length cap] W fun e w' => e = .returned (.tuple #[.string ⟨(prAll n L).toArray⟩, .int .i64 0]) ∧ Below W.heap.size W w' := fun L hf hl hc ao cap W hb hd => by
    have := whole_Print n ao cap L W hd hl hc (hT.below hb) (Nat.lt_of_lt_of_le hg1 hb.size) (Nat.lt_of_lt_of_le hg2 hb.size)
    rw [prRes_ok n L (by omega) hf] at this; exact this
  unfold WordsPost at hwords
  rw [hP] at hwords
  replace haw := Lib.hid haw; replace hwords := Lib.hid hwords; replace hP := Lib.hid hP; replace hPo := Lib.hid hPo; replace hn := Lib.hid hn; replace hinn := Lib.hid hinn; replace hpr := Lib.hid hpr; replace hT := Lib.hid hT; replace hR := Lib.hid hR; replace hwf := Lib.hid hwf
  go_enter Tryd.func10, Tryd.ntmps10
  go_wp2_with fail
  refine (l8_pick N 40 _ (by decide) hN).mono ?_
  rintro e w ⟨rfl, rfl⟩
  go_wp2_with fail
  refine (l8_pick I 12 _ (by decide) hI).mono ?_
  rintro e w ⟨rfl, rfl⟩
  rw [hinn.out]
  go_wp2_with fail
  refine hwords.out.mono ?_
  rintro e w3 ⟨⟨a1, c1, a2, c2, rfl, hS1, hS2⟩, b3⟩
  have hz3 := b3.size
  replace hS1 := Lib.hid hS1; replace hS2 := Lib.hid hS2; replace b3 := Lib.hid b3
  go_wp2_with fail
  go_loopw [9, 10, 11] (fun pv sv iv W => ∃ (i : Nat) (vp : Value), .int .i64 (i : Int) = iv ∧ .int .i64 ((sumP (P.take i) : Nat) : Int) = sv ∧ vp = pv ∧ i ≤ P.length ∧ Hid (RowD W w3.heap.size vp (layP (P.take i))) ∧ Hid (Below w3.heap.size w3 W)) (fun _ _ iv _ => P.length - (RowKit.intOf iv).toNat)
  case atStart => exact ⟨0, _, rfl, by simp [sumP], rfl, by omega, Lib.hid (by simpa [layP] using RowD.nil _ _), Lib.hid (Below.refl _ _)⟩
  case round =>
    obtain ⟨i, vp, rfl, rfl, rfl, hi, hS, hb⟩ := hrel
    have hbz := hb.out.size
    by_cases hlt : i < P.length
    · obtain ⟨⟨g, wd⟩, hx⟩ : ∃ x, P[i]? = some x := ⟨_, List.getElem?_eq_getElem hlt⟩
      have htl : (P.take i).length = i := by rw [List.length_take]; omega
      have htk : P.take (i + 1) = P.take i ++ [(g, wd)] := by
        rw [List.take_succ_eq_append_getElem hlt]
        rw [List.getElem?_eq_getElem hlt] at hx
        rw [Option.some.inj hx]
      have hln : layP (P.take (i + 1)) = layP (P.take i) ++ pcs i (g, wd) := by rw [htk, layP_snoc, htl]
      have hsn : sumP (P.take (i + 1)) = sumP (P.take i) + ((if i = 0 then 0 else g) + wd.length) := by rw [htk, sumP_snoc, htl]
      obtain ⟨hne, hg, hwl, _⟩ := hPo.out (g, wd) (List.mem_of_getElem? hx)
      obtain ⟨p1, o1, rfl, q1⟩ := (hS1.out.below hb.out) i wd (by rw [List.getElem?_map, hx]; rfl)
      obtain ⟨p2, o2, rfl, q2⟩ := (hS2.out.below hb.out) i g (by rw [List.getElem?_map, hx]; rfl)
      have hp1 : p1 < w3.heap.size := by
        obtain ⟨b', o', e', h0⟩ := hS1.out i wd (by rw [List.getElem?_map, hx]; rfl)
        cases e'; exact cell_lt h0
      have hp2 : p2 < w3.heap.size := by
        obtain ⟨b', o', e', h0⟩ := hS2.out i g (by rw [List.getElem?_map, hx]; rfl)
        cases e'; exact cell_lt h0
      have hws := size_arr wd
      have hll := lay_len (P.take i)
      have hsl := sumP_le (P.take i) (hPo.out.take i)
      rw [htl] at hll hsl
      simp only at hg hwl hne
      have hi1 : (i : Int) < P.length := by omega
      have hi2 : (0 : Int) ≤ i := by omega
      have wi : IntKind.i64.wrap ((i : Int) + 1) = i + 1 := IntWalk.i64_in _ (by omega)
      have hmeas : P.length - (RowKit.intOf (.int .i64 ((i : Int) + 1))).toNat < P.length - (RowKit.intOf (.int .i64 (i : Int))).toNat := by simp [RowKit.intOf]; omega
      obtain ⟨Su, hSu⟩ : ∃ Su : Nat, sumP (P.take i) = Su := ⟨_, rfl⟩
      rw [hSu] at hsn hsl ⊢
      replace hx := Lib.hid hx; replace htl := Lib.hid htl; replace htk := Lib.hid htk; replace hln := Lib.hid hln; replace hne := Lib.hid hne; replace hSu := Lib.hid hSu
      by_cases hi0 : i = 0
      · have hi0' : ¬ (0 : Int) < i := by omega
        rw [if_pos hi0, Nat.zero_add] at hsn
        have hpc : pcs i (g, wd) = [txD ⟨wd.toArray⟩] := by simp [pcs, hi0]
        have ws : IntKind.i64.wrap ((Su : Int) + wd.length) = Su + wd.length := IntWalk.i64_in _ (by omega)
        replace hpc := Lib.hid hpc; replace hi0 := Lib.hid hi0; replace hsn := Lib.hid hsn
        go_wp2_with fail
        refine (l8_text _ _).mono ?_
        rintro e w4 ⟨rfl, b4⟩
        have hS4 := Lib.hid (hS.out.below b4)
        have hb4 := Lib.hid (hb.out.trans (b4.mono hbz))
        have hz4 := hb4.out.size
        have q1' := keepC b4 q1
        clear b4
        go_wp2_with (at_builtin; refine app_at rfl (.tmp 52) (.tmp 58) 44 TD rfl w3.heap.size Tryd.underlying44 infoD rfl (by decide) rfl (RowD.alloc hS4.out _) ⟨w4.heap.size, 0, none⟩ 1 1 ([txD ⟨wd.toArray⟩].flatMap DocV.cells) rfl rfl (new_docs w4 [txD ⟨wd.toArray⟩] _ rfl) (docs_one_cells _) (by omega) (by omega) (by simp; omega) ?_; intro v6 w6 hv6 hg6 hn6; have q1'' := cell_kept (keepC ((Below.refl _ _).alloc (Nat.le_refl _) (.cells #[.int .u8 1, .string ⟨wd.toArray⟩, .int .i64 0, .int .i64 0, .bool false] TD)) q1') (kept_of_grown hg6) (fun e => by have := (own_lt hS4.out _ e).1; omega))
        have hm6 := RowD.more (L := layP (P.take i)) (M := [txD ⟨wd.toArray⟩]) hv6
        rw [← hpc.out, ← hln.out] at hm6
        have hfin := hb4.out.trans (((Below.refl _ w4).alloc hz4 (.cells #[.int .u8 1, .string ⟨wd.toArray⟩, .int .i64 0, .int .i64 0, .bool false] TD)).trans ((kept_of_grown hg6).below (by simp; omega) (fun j e => (own_lt hS4.out j e).1)))
        exact ⟨⟨i + 1, v6, by go_num, by rw [hsn.out]; go_num, rfl, by omega, Lib.hid hm6, Lib.hid hfin⟩, hmeas⟩
      · have hi0' : (0 : Int) < i := by omega
        rw [if_neg hi0] at hsn
        have hpc : pcs i (g, wd) = [gpD g, txD ⟨wd.toArray⟩] := by simp [pcs, hi0]
        have ws1 : IntKind.i64.wrap ((Su : Int) + g) = Su + g := IntWalk.i64_in _ (by omega)
        have ws2 : IntKind.i64.wrap ((Su : Int) + g + wd.length) = Su + g + wd.length := IntWalk.i64_in _ (by omega)
        replace hpc := Lib.hid hpc; replace hi0 := Lib.hid hi0; replace hsn := Lib.hid hsn
        go_wp2_with fail
        refine (l8_gap _ _).mono ?_
        rintro e w4 ⟨rfl, b4⟩
        have hS4 := Lib.hid (hS.out.below b4)
        have hb4 := Lib.hid (hb.out.trans (b4.mono hbz))
        have hz4 := hb4.out.size
        have q1' := keepC b4 q1; have q2' := keepC b4 q2
        clear b4
        go_wp2_with (at_builtin; refine app_at rfl (.tmp 38) (.tmp 44) 44 TD rfl w3.heap.size Tryd.underlying44 infoD rfl (by decide) rfl (RowD.alloc hS4.out _) ⟨w4.heap.size, 0, none⟩ 1 1 ([gpD g].flatMap DocV.cells) rfl rfl (new_docs w4 [gpD g] _ rfl) (docs_one_cells _) (by omega) (by omega) (by simp; omega) ?_; intro v6 w6 hv6 hg6 hn6; have q1'' := cell_kept (keepC ((Below.refl _ _).alloc (Nat.le_refl _) (.cells #[.int .u8 3, .string ⟨#[]⟩, .int .i64 g, .int .i64 0, .bool false] TD)) q1') (kept_of_grown hg6) (fun e => by have := (own_lt hS4.out _ e).1; omega); have q2'' := cell_kept (keepC ((Below.refl _ _).alloc (Nat.le_refl _) (.cells #[.int .u8 3, .string ⟨#[]⟩, .int .i64 g, .int .i64 0, .bool false] TD)) q2') (kept_of_grown hg6) (fun e => by have := (own_lt hS4.out _ e).1; omega))
        have hm6 := Lib.hid (RowD.more (L := layP (P.take i)) (M := [gpD g]) hv6)
        have hb6 := Lib.hid (hb4.out.trans (((Below.refl _ w4).alloc hz4 (.cells #[.int .u8 3, .string ⟨#[]⟩, .int .i64 g, .int .i64 0, .bool false] TD)).trans ((kept_of_grown hg6).below (by simp; omega) (fun j e => (own_lt hS4.out j e).1))))
        have hz6 := hb6.out.size
        clear hv6 hg6 hn6 hS4 hb4
        refine (l8_text _ _).mono ?_
        rintro e w7 ⟨rfl, b7⟩
        have hS7 := Lib.hid (hm6.out.below b7)
        have hb7 := Lib.hid (hb6.out.trans (b7.mono hz6))
        have hz7 := hb7.out.size
        have q1d := keepC b7 q1''
        clear b7
        have hlen7 : (layP (P.take i) ++ [gpD g]).length = (layP (P.take i)).length + 1 := by simp
        go_wp2_with (at_builtin; refine app_at rfl (.tmp 52) (.tmp 58) 44 TD rfl w3.heap.size Tryd.underlying44 infoD rfl (by decide) rfl (RowD.alloc hS7.out _) ⟨w7.heap.size, 0, none⟩ 1 1 ([txD ⟨wd.toArray⟩].flatMap DocV.cells) rfl rfl (new_docs w7 [txD ⟨wd.toArray⟩] _ rfl) (docs_one_cells _) (by omega) (by omega) (by simp; omega) ?_; intro v8 w8 hv8 hg8 hn8; have q1w := cell_kept (keepC ((Below.refl _ _).alloc (Nat.le_refl _) (.cells #[.int .u8 1, .string ⟨wd.toArray⟩, .int .i64 0, .int .i64 0, .bool false] TD)) q1d) (kept_of_grown hg8) (fun e => by have := (own_lt hS7.out _ e).1; omega))
        have hm8 := RowD.more (L := layP (P.take i) ++ [gpD g]) (M := [txD ⟨wd.toArray⟩]) hv8
        rw [List.append_assoc] at hm8
        have hm9 : RowD w8 w3.heap.size v8 (layP (P.take (i + 1))) := by rw [hln.out, hpc.out]; exact hm8
        have hfin := hb7.out.trans (((Below.refl _ w7).alloc hz7 (.cells #[.int .u8 1, .string ⟨wd.toArray⟩, .int .i64 0, .int .i64 0, .bool false] TD)).trans ((kept_of_grown hg8).below (by simp; omega) (fun j e => (own_lt hS7.out j e).1)))
        exact ⟨⟨i + 1, v8, by go_num, by rw [hsn.out]; congr 1; push_cast; omega, rfl, by omega, Lib.hid hm9, Lib.hid hfin⟩, hmeas⟩
    · have hi1 : ¬ (i : Int) < P.length := by omega
      have he : i = P.length := by omega
      subst he
      rw [List.take_length] at hS ⊢
      have hsl := sumP_le P hPo.out
      obtain ⟨Su, hSu⟩ : ∃ Su : Nat, sumP P = Su := ⟨_, rfl⟩
      rw [hSu] at hsl ⊢
      have hll := lay_len P
      have hcl := cost_lay P hPo.out
      obtain ⟨ap, cp, hvp, hDp⟩ := hS.out.docs
      subst hvp
      replace hSu := Lib.hid hSu; replace hDp := Lib.hid hDp
      have hpz := own_lt hS.out
      replace hpz := Lib.hid hpz
      have hB0 : RowD (wr.alloc (.cells #[.int .u8 6, .string ⟨#[]⟩, .int .i64 0, .int .i64 inn, .bool false] TD)) wr.heap.size (.slice (some ⟨wr.heap.size, 0, none⟩) 1 1) [bgD inn false] := blk_docs (L := [bgD inn false]) _ (Blk.new _ _ _) rfl (by simp) _ (Nat.le_refl _)
      have hbA : Below wr.heap.size wr (wr.alloc (.cells #[.int .u8 6, .string ⟨#[]⟩, .int .i64 0, .int .i64 inn, .bool false] TD)) := (Below.refl _ _).alloc (Nat.le_refl _) _
      have hpl := fill_plain n P hPo.out
      have hbl0 := fill_block n (by omega) inn (by omega) false P hPo.out
      have hbl1 := fill_block n (by omega) inn (by omega) true P hPo.out
      simp only [Bool.false_eq_true, if_false, if_true] at hbl0 hbl1
      have hfl : ∀ (N : Int) (k : Nat), -1 ≤ N ∧ N ≤ 1048576000 → k ≤ 1000 → ∀ W, Below w3.heap.size w3 W → Calls Tryd.prog 36 #[.int .i64 N, .int .i64 k, .slice a1 P.length c1, .slice a2 P.length c2] W fun e w' => e = .returned (.string ⟨(fillP N k P).toArray⟩) ∧ Below W.heap.size W w' := fun N k hN hk W hb => l8_filled N k a1 c1 a2 c2 P W (hS1.out.below hb) (hS2.out.below hb) hPo.out hPl hN hk
      have hpr1 := hpr.out (layP P) (form_lay P hPo.out) (by omega) (by omega)
      have hcb : ∀ ev, cost (bgD inn ev :: layP P ++ [kD 7]) ≤ 17179869184 := fun ev => by
        rw [List.cons_append, cost, cost_app]
        have h0 : (bgD inn ev).t.size = 0 := rfl
        have h1 : cost [kD 7] = 1001 := rfl
        omega
      have hlb : ∀ ev, (bgD inn ev :: layP P ++ [kD 7]).length = (layP P).length + 1 + 1 := fun ev => by simp
      have hpr2 := fun ev => hpr.out (bgD inn ev :: layP P ++ [kD 7]) (form_block P hPo.out inn (by omega) ev) (by rw [hlb]; omega) (hcb ev)
      rw [hpl] at hpr1
      have hpr20 := hpr2 false
      have hpr21 := hpr2 true
      rw [hbl0] at hpr20
      rw [hbl1, hSu.out] at hpr21
      obtain ⟨F2, hF2⟩ : ∃ F2 : ByteArray, (⟨(if (Su : Int) ≤ n then fillP Su inn P else fillP (-1) inn P).toArray⟩ : ByteArray) = F2 := ⟨_, rfl⟩
      rw [hF2] at hpr21
      obtain ⟨F0, hF0⟩ : ∃ F0 : ByteArray, (⟨(fillP n 0 P).toArray⟩ : ByteArray) = F0 := ⟨_, rfl⟩
      obtain ⟨F1, hF1⟩ : ∃ F1 : ByteArray, (⟨(fillP n inn P).toArray⟩ : ByteArray) = F1 := ⟨_, rfl⟩
      rw [hF0] at hpr1
      rw [hF1] at hpr20
      replace hF2 := Lib.hid hF2
      have hlb0 := hlb false
      have hlb1 := hlb true
      rw [hlb0] at hpr20
      rw [hlb1] at hpr21
      have hin0 : (0 : Int) ≤ inn := by omega
      replace hB0 := Lib.hid hB0; replace hbA := Lib.hid hbA; replace hfl := Lib.hid hfl; replace hpr1 := Lib.hid hpr1; replace hpr20 := Lib.hid hpr20; replace hpr21 := Lib.hid hpr21; replace hlb0 := Lib.hid hlb0; replace hlb1 := Lib.hid hlb1
      clear hpl hbl0 hbl1 hcb hlb hpr2 hcl
      have hB1 : RowD ((wr.alloc (.cells #[.int .u8 6, .string ⟨#[]⟩, .int .i64 0, .int .i64 inn, .bool false] TD))) w3.heap.size (.slice ap (layP P).length cp) (layP P) := hS.out.alloc _
      have hzr : (wr.alloc (.cells #[.int .u8 6, .string ⟨#[]⟩, .int .i64 0, .int .i64 inn, .bool false] TD)).heap.size = wr.heap.size + 1 := by simp
      replace hB1 := Lib.hid hB1; replace hzr := Lib.hid hzr
      go_wp2_with (first
        | (at_builtin; refine app_rowD rfl (.tmp 70) (.tmp 71) rfl wr.heap.size rfl hB0.out rfl hB1.out (by simp; omega) (by simp) ?_; intro v5 w5 hm5 hg5 hn5; have hb5 := hbA.out.trans ((kept_of_grown hg5).below (by simp) (fun j e => (own_lt hB0.out j e).1)); have hz5 := hb5.size)
        | (at_builtin; refine app_rowD rfl (.tmp 73) (.tmp 75) rfl wr.heap.size rfl (RowD.alloc hm5 _) rfl (B := w5.heap.size) (M := [kD 7]) (blk_docs (L := [kD 7]) _ (Blk.new w5 _ TD) rfl (by simp) _ (Nat.le_refl _)) (by simp; omega) (by simp; omega) ?_; intro v6 w6 hm6 hg6 hn6; have hb6 := (hb5.alloc hz5 (.cells #[.int .u8 7, .string ⟨#[]⟩, .int .i64 0, .int .i64 0, .bool false] TD)).trans ((kept_of_grown hg6).below (by simp; omega) (fun j e => (own_lt hm5 j e).1))))
      have hb6t := hb.out.trans (hb6.mono hbz)
      have hD6 := hDp.out.below hb6
      have hm6' : RowD w6 wr.heap.size v6 (bgD inn false :: (layP P ++ [kD 7])) := hm6
      obtain ⟨gb, cb, rfl⟩ := hm6'.shape
      obtain ⟨hgb, _⟩ := own_lt hm6' gb rfl
      replace hm6' := Lib.hid hm6'; replace hD6 := Lib.hid hD6; replace hb6t := Lib.hid hb6t
      have hw3 : Below w.heap.size w w6 := b3.out.trans (hb6t.out.mono hz3)
      replace hw3 := Lib.hid hw3
      clear hm6 hg6 hn6 hm5 hg5 hn5 hb5 hb6 hB0 hB1 hbA hzr hS hDp hpz
      have hz6 := hw3.out.size
      have hz63 := hb6t.out.size
      refine (hpr1.out ap cp w6 hw3.out hD6.out).mono ?_
      rintro e w7 ⟨rfl, b7⟩
      have hm7 := Lib.hid (hm6'.out.below b7)
      have hw7 := Lib.hid (hw3.out.trans (b7.mono hz6))
      have hb7 := Lib.hid (hb6t.out.trans (b7.mono hz63))
      clear b7
      go_wp2_with fail
      obtain ⟨ab, cb', hve, hD7⟩ := hm7.out.docs
      have hve2 : ab = some ⟨gb, 0, none⟩ ∧ cb' = cb := by simp at hve; exact ⟨hve.1.symm, hve.2.symm⟩
      obtain ⟨rfl, rfl⟩ := hve2
      clear hve
      have hz7 := hw7.out.size
      have hz73 := hb7.out.size
      have hlbe : (layP P ++ [kD 7]).length + 1 = (layP P).length + 1 + 1 := by simp
      refine (hpr20.out _ cb' w7 hw7.out hD7).mono ?_
      rintro e w8 ⟨rfl, b8⟩
      have hm8 := hm7.out.below b8
      have hw8 := Lib.hid (hw7.out.trans (b8.mono hz7))
      have hb8 := Lib.hid (hb7.out.trans (b8.mono hz73))
      clear b8 hD7
      unfold RowD at hm8
      rw [List.length_cons, hlbe] at hm8
      have hce : w8.cell? ⟨gb, 4, none⟩ = some (.bool false) := by
        rw [World.ownsRow.cellAt hm8 4 (by omega)]; rfl
      have hcf := World.ownsRow.frozenAt hm8 4
      have hst := (World.ownsRow.stored hm8 4 (.bool true)).1
      have hm9 : RowD (w8.setCell ⟨gb, 4, none⟩ (.bool true)) wr.heap.size (.slice (some ⟨gb, 0, none⟩) ((layP P).length + 1 + 1) cb') (bgD inn true :: (layP P ++ [kD 7])) := by
        unfold RowD
        rw [List.length_cons, hlbe]
        exact hst
      have hb9 := Lib.hid (hb8.out.setCell (p := ⟨gb, 4, none⟩) (by show w3.heap.size ≤ gb; omega) (.bool true))
      have hw9 := Lib.hid (hw8.out.setCell (p := ⟨gb, 4, none⟩) (by show w.heap.size ≤ gb; omega) (.bool true))
      obtain ⟨ab, cb2, hve, hD9⟩ := hm9.docs
      have hve2 : ab = some ⟨gb, 0, none⟩ ∧ cb2 = cb' := by simp at hve; exact ⟨hve.1.symm, hve.2.symm⟩
      obtain ⟨rfl, rfl⟩ := hve2
      replace hD9 := Lib.hid hD9; replace hm9 := Lib.hid hm9
      clear hve hst hm8 hm7 hm6'
      go_wp2_with fail
      refine (hpr21.out _ cb2 _ hw9.out hD9.out).mono ?_
      rintro e wA ⟨rfl, bA⟩
      have hwA := Lib.hid (hw9.out.trans (bA.mono hw9.out.size))
      have hbA := Lib.hid (hb9.out.trans (bA.mono hb9.out.size))
      clear bA
      go_wp2_with fail
      have hSub : (Su : Int) ≤ 1048576000 := by omega
      have hSu0 : -1 ≤ (Su : Int) := by omega
      have hf0 := fun W h => hfl.out n 0 (by omega) (by omega) W h
      have hf1 := fun W h => hfl.out n inn (by omega) (by omega) W h
      rw [hF0] at hf0
      rw [hF1] at hf1
      have hfm := fun W h => hfl.out (-1) inn (by omega) (by omega) W h
      have hfs := fun W h => hfl.out Su inn ⟨hSu0, hSub⟩ (by omega) W h
      replace hf0 := Lib.hid hf0; replace hf1 := Lib.hid hf1; replace hF0 := Lib.hid hF0; replace hF1 := Lib.hid hF1
      by_cases hle : (Su : Int) ≤ n
      · have hF := hF2.out
        rw [if_pos hle] at hF
        rw [hF] at hfs
        replace hF := Lib.hid hF; replace hfs := Lib.hid hfs; replace hfm := Lib.hid hfm
        refine (hfm.out _ hbA.out).mono ?_
        rintro e wB ⟨rfl, bB⟩
        have hwB := Lib.hid (hwA.out.trans (bB.mono hwA.out.size))
        have hbB := Lib.hid (hbA.out.trans (bB.mono hbA.out.size))
        clear bB
        go_wp2_with fail
        refine (hfs.out _ hbB.out).mono ?_
        rintro e wC ⟨rfl, bC⟩
        have hwC := Lib.hid (hwB.out.trans (bC.mono hwB.out.size))
        have hbC := Lib.hid (hbB.out.trans (bC.mono hbB.out.size))
        clear bC
        go_wp2_with fail
        refine (haw.out _ hwC.out).mono ?_
        rintro e wD ⟨rfl, bD⟩
        have hwD := Lib.hid (hwC.out.trans (bD.mono hwC.out.size))
        have hbD := Lib.hid (hbC.out.trans (bD.mono hbC.out.size))
        clear bD
        go_wp2_with fail
        refine (hf0.out _ hbD.out).mono ?_
        rintro e wE ⟨rfl, bE⟩
        have hwE := Lib.hid (hwD.out.trans (bE.mono hwD.out.size))
        have hbE := Lib.hid (hbD.out.trans (bE.mono hbD.out.size))
        clear bE
        go_wp2_with fail
        refine (hf1.out _ hbE.out).mono ?_
        rintro e wF ⟨rfl, bF⟩
        have hwF := Lib.hid (hwE.out.trans (bF.mono hwE.out.size))
        clear bF
        go_wp2_with fail
        go_ret
        exact ⟨by simp, hwF.out⟩
      · have hF := hF2.out
        rw [if_neg hle] at hF
        rw [hF] at hfm
        replace hF := Lib.hid hF; replace hfs := Lib.hid hfs; replace hfm := Lib.hid hfm
        refine (hfm.out _ hbA.out).mono ?_
        rintro e wC ⟨rfl, bC⟩
        have hwC := Lib.hid (hwA.out.trans (bC.mono hwA.out.size))
        have hbC := Lib.hid (hbA.out.trans (bC.mono hbA.out.size))
        clear bC
        go_wp2_with fail
        refine (haw.out _ hwC.out).mono ?_
        rintro e wD ⟨rfl, bD⟩
        have hwD := Lib.hid (hwC.out.trans (bD.mono hwC.out.size))
        have hbD := Lib.hid (hbC.out.trans (bD.mono hbC.out.size))
        clear bD
        go_wp2_with fail
        refine (hf0.out _ hbD.out).mono ?_
        rintro e wE ⟨rfl, bE⟩
        have hwE := Lib.hid (hwD.out.trans (bE.mono hwD.out.size))
        have hbE := Lib.hid (hbD.out.trans (bE.mono hbD.out.size))
        clear bE
        go_wp2_with fail
        refine (hf1.out _ hbE.out).mono ?_
        rintro e wF ⟨rfl, bF⟩
        have hwF := Lib.hid (hwE.out.trans (bF.mono hwE.out.size))
        clear bF
        go_wp2_with fail
        go_ret
        exact ⟨by simp, hwF.out⟩
open Go.ChangeShapes Go.WideShapes Go.ChangeAt in
theorem cells_word : Tryd.prog.cellsOf 87 = 2 := by kernel_rfl
open Go.ChangeShapes Go.WideShapes Go.ChangeAt in
set_option maxHeartbeats 1000000 in
set_option maxRecDepth 100000 in
theorem open_raw {H : Type} {enc : TypeId × Value → H} {W : World} {base fuel : Nat} {sp : Nat → Bool} {hd : Bool} {cs : List Value} {x : DataW H × List MemPlace} (h : DataW.trod enc Tryd.prog W base sp hd fuel 87 cs = some x) :
    ∃ d : Int × Int, cs = [.int .i64 d.1, .int .i64 d.2] ∧ 1 ≤ Rows.uptoBulk x.1 ∧ (-9223372036854775808 ≤ d.1 ∧ d.1 ≤ 9223372036854775807) ∧ (-9223372036854775808 ≤ d.2 ∧ d.2 ≤ 9223372036854775807) := by
  obtain ⟨xs, n, _, rfl, hl, hlen, hf⟩ := DataW.trod_struct Tryd.underlying87 h
  rw [cells_word] at hl
  match cs, hl with
  | [c0, c1], _ =>
    match xs, hlen with
    | [y0, y1], _ =>
      have g0 := hf 0 _ rfl; have g1 := hf 1 _ rfl
      simp [cells_1] at g0 g1
      obtain ⟨a, e0, f0, w0⟩ := DataW.trod_int Tryd.underlying3 g0
      obtain ⟨b, e1, f1, w1⟩ := DataW.trod_int Tryd.underlying3 g1
      simp at e0 e1
      have wf : ∀ z : Int, (Lit.int .i64 z).wf = true → -9223372036854775808 ≤ z ∧ z ≤ 9223372036854775807 := fun z hz => by
        have hm : IntKind.i64.min = -9223372036854775808 := by decide
        have hM : IntKind.i64.max = 9223372036854775807 := by decide
        simp [Lit.wf, hm, hM] at hz
        omega
      refine ⟨(a, b), by rw [e0, e1], ?_, wf a w0, wf b w1⟩
      simp [Rows.uptoBulk]
theorem bulk_range1 {H : Type} (D : Nat → DataW H) : ∀ (n : Nat), (∀ i, i < n → 1 ≤ Rows.uptoBulk (D i)) → n ≤ Rows.uptoBulkAll ((List.range n).map D)
  | 0, _ => Nat.zero_le _
  | n + 1, h => by
    rw [List.range_succ, List.map_append, bulk_append]
    have := bulk_range1 D n (fun i hi => h i (by omega))
    have := h n (by omega)
    simp [Rows.uptoBulkAll]; omega
open Go.ChangeShapes Go.WideShapes Go.ChangeAt in
set_option maxRecDepth 100000 in
theorem open_raws {H : Type} {enc : TypeId × Value → H} {W : World} {base b0 : Nat} {r : Reach} {sp : Nat → Bool} {hd : Bool} {v : Value} {d : DataW H} {ps : List MemPlace} (hval : Value.okWide Tryd.prog W r b0 53 v) (h : DataW.Trod enc Tryd.prog W base sp hd 53 v d ps) :
    ∃ ao cap S, v = .slice ao (List.length S) cap ∧ Raws W ao S ∧ S.length ≤ Rows.uptoBulk d ∧ (∀ x ∈ S, (-9223372036854775808 ≤ x.1 ∧ x.1 ≤ 9223372036854775807) ∧ (-9223372036854775808 ≤ x.2 ∧ x.2 ≤ 9223372036854775807)) := by
  obtain ⟨a, len, cap, rfl⟩ := okWide_slice Tryd.underlying53 hval
  obtain ⟨fuel, hf⟩ := h
  simp only [Value.cells] at hf
  rcases Go.Deep.open_slice Tryd.underlying53 hf with ⟨h0, _⟩ | ⟨a', len', cap', m, n, D, Pl, hcs, _, hl, _, hm, hx, hel⟩
  · simp at h0
    obtain ⟨rfl, rfl, rfl⟩ := h0
    exact ⟨none, 0, [], rfl, fun i a ha => by simp at ha, by simp, by simp⟩
  · simp at hcs
    obtain ⟨rfl, rfl, rfl⟩ := hcs
    have hlm : len ≤ m := by rw [hm]; split <;> omega
    have each : ∀ i, i < len → ∃ q : Int × Int, (∀ j, j < 2 → W.cell? ((a'.add (i * 2)).add j) = [Value.int .i64 q.1, .int .i64 q.2][j]?) ∧ 1 ≤ Rows.uptoBulk (D i) ∧ (-9223372036854775808 ≤ q.1 ∧ q.1 ≤ 9223372036854775807) ∧ (-9223372036854775808 ≤ q.2 ∧ q.2 ≤ 9223372036854775807) := fun i hi => by
      obtain ⟨cs', h1, h2⟩ := hel i (by omega)
      obtain ⟨q, rfl, hq⟩ := open_raw h2
      rw [cells_word] at h1
      obtain ⟨_, _, hc⟩ := World.cells?_some h1
      exact ⟨q, hc, hq⟩
    obtain ⟨f, hf'⟩ : ∃ f : Nat → Int × Int, ∀ i, i < len → (∀ j, j < 2 → W.cell? ((a'.add (i * 2)).add j) = [Value.int .i64 (f i).1, .int .i64 (f i).2][j]?) ∧ 1 ≤ Rows.uptoBulk (D i) ∧ (-9223372036854775808 ≤ (f i).1 ∧ (f i).1 ≤ 9223372036854775807) ∧ (-9223372036854775808 ≤ (f i).2 ∧ (f i).2 ≤ 9223372036854775807) :=
      ⟨fun i => if h : i < len then Classical.choose (each i h) else (0, 0), fun i hi => by simp only [hi, dif_pos]; exact Classical.choose_spec (each i hi)⟩
    refine ⟨some a', cap, (List.range len).map f, by simp, fun i q hq => ?_, ?_, ?_⟩
    · have hi : i < len := by have := (List.getElem?_eq_some_iff.1 hq).1; simpa using this
      have hqf : f i = q := by simpa [hi] using hq
      subst hqf
      have hsp : a'.spot = none := by
        have h0 := (hf' 0 (by omega)).1 0 (by omega)
        cases hs : a'.spot with
        | none => rfl
        | some z =>
          simp [Addr.add, World.cell?, hs] at h0
          split at h0 <;> simp at h0
      obtain ⟨b, o, s⟩ := a'
      simp only at hsp
      subst hsp
      have go : ∀ j, j < 2 → W.cell? ⟨b, o + i * 2 + j, none⟩ = W.cell? (((⟨b, o, none⟩ : Addr).add (i * 2)).add j) := fun j _ => by
        congr 1
        unfold Addr.add
        by_cases h1 : i * 2 = 0 <;> by_cases h2 : j = 0 <;> simp [h1, h2]
      have hi' := (hf' i hi).1
      exact ⟨b, o, rfl, by have := (go 0 (by omega)).trans (hi' 0 (by omega)); simpa using this, (go 1 (by omega)).trans (hi' 1 (by omega))⟩
    · have hb := bulk_range1 D len (fun i hi => (hf' i hi).2.1)
      have hd : d = DataW.slice ((List.range len).map D) ((List.range (m - len)).map fun j => D (len + j)) := congrArg Prod.fst hx
      rw [hd]
      simp only [Rows.uptoBulk, List.length_map, List.length_range]
      omega
    · intro q hq
      obtain ⟨i, hi, rfl⟩ := List.mem_map.1 hq
      exact (hf' i (by simpa using hi)).2.2
end Go.Proofs.YtphcmbdmkhmfbaaDoor
