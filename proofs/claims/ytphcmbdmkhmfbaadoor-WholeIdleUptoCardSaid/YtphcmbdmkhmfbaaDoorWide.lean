/- whole.widths: how wide blocks are, and what hangs on Breaks. -/
import Derived.Test.YtphcmbdmkhmfbaaDoorWst
namespace Go.Proofs.YtphcmbdmkhmfbaaDoor
open Go.RowKit Go.Lib
set_option linter.unusedVariables false
set_option linter.unusedSimpArgs false
structure Ws where
  bh : Int
  lv : List (Int × Int)
  out : List Int
def wNext (d : DocV) (s : Ws) : Ws :=
  match s.lv with
  | [] => ⟨s.bh + wideAs 1048576 d, [], 0 :: s.out⟩
  | (e, x) :: q => ⟨s.bh + wideAs 1048576 d, wLv d s.bh (s.bh + wideAs 1048576 d) e x q, (if d.k = 6 then s.bh - e else if d.k = 3 then s.bh + wideAs 1048576 d - x else 0) :: s.out⟩
theorem wNext_cons (d : DocV) (s : Ws) (e x : Int) (q : List (Int × Int)) (h : s.lv = (e, x) :: q) : wNext d s = ⟨s.bh + wideAs 1048576 d, wLv d s.bh (s.bh + wideAs 1048576 d) e x q, (if d.k = 6 then s.bh - e else if d.k = 3 then s.bh + wideAs 1048576 d - x else 0) :: s.out⟩ := by
  unfold wNext; rw [h]
/-- What stands behind the pieces, told from the end. -/
def wRun : List DocV → Ws
  | [] => ⟨0, [(0, 0)], []⟩
  | d :: r => wNext d (wRun r)
def depth : List DocV → Int
  | [] => 0
  | d :: r => opens d + depth r
/-- All pieces are right, and no block is left open at its end. -/
theorem formAt_ok : ∀ (L : List DocV) (i : Nat) (o : Int), 0 ≤ o → formAt L i o = -1 → (∀ d ∈ L, rightB d = true) ∧ o + depth L = 0
  | [], i, o, h0, h => by
    unfold formAt at h
    split at h
    · omega
    · refine ⟨by simp, ?_⟩; simp [depth]; omega
  | d :: r, i, o, h0, h => by
    unfold formAt at h
    split at h
    · omega
    · rename_i hn
      have hr : rightB d = true := by
        cases hh : rightB d
        · exact absurd (.inl hh) hn
        · rfl
      have h7 : ¬ (d.k = 7 ∧ o = 0) := fun e => hn (.inr e)
      have ho : 0 ≤ o + opens d := by unfold opens; split <;> (try split) <;> omega
      obtain ⟨h1, h2⟩ := formAt_ok r (i + 1) (o + opens d) ho h
      exact ⟨by intro x hx; rcases List.mem_cons.1 hx with rfl | hx; exact hr; exact h1 x hx, by simp [depth]; omega⟩
theorem formAt_tail : ∀ (L : List DocV) (i : Nat) (o : Int) (j : Nat), 0 ≤ o → formAt L i o = -1 → 0 ≤ - depth (L.drop j)
  | [], i, o, j, h0, h => by simp [depth]
  | d :: r, i, o, 0, h0, h => by have := (formAt_ok _ i o h0 h).2; simp only [List.drop_zero]; omega
  | d :: r, i, o, j + 1, h0, h => by
    unfold formAt at h
    split at h
    · omega
    · rename_i hn
      have h7 : ¬ (d.k = 7 ∧ o = 0) := fun e => hn (.inr e)
      have ho : 0 ≤ o + opens d := by unfold opens; split <;> (try split) <;> omega
      simpa using formAt_tail r (i + 1) (o + opens d) j ho h
theorem wide_ok (d : DocV) (h : rightB d = true) : 0 ≤ wideAs 1048576 d ∧ wideAs 1048576 d ≤ 2097152 ∧ d.t.size ≤ 65536 ∧ (0 ≤ d.b ∧ d.b ≤ 1000) ∧ (0 ≤ d.n ∧ d.n ≤ 1000) := by
  have hw := wid_le d.t.data.toList
  have hs : d.t.data.toList.length = d.t.size := Array.length_toList
  unfold rightB at h
  unfold wideAs
  split at h
  · simp only [Bool.and_eq_true, decide_eq_true_eq] at h
    rename_i h1
    simp only [h1, if_true]
    split <;> omega
  · split at h
    · simp only [Bool.and_eq_true, decide_eq_true_eq] at h
      rename_i h1 h2
      simp only [h2]
      simp; omega
    · split at h
      · simp only [Bool.and_eq_true, decide_eq_true_eq] at h
        rename_i h1 h2 h3
        simp only [h3]; simp; omega
      · split at h
        · simp only [decide_eq_true_eq] at h
          rename_i h1 h2 h3 h4
          split <;> (try split) <;> (try split) <;> (try split) <;> omega
        · cases h
theorem wRun_ok : ∀ (L : List DocV), (∀ d ∈ L, rightB d = true) → (∀ j, 0 ≤ - depth (L.drop j)) →
    (wRun L).out.length = L.length ∧ ((wRun L).lv.length : Int) = 1 - depth L ∧ 0 ≤ (wRun L).bh ∧ (wRun L).bh ≤ 2097152 * L.length ∧ (∀ p ∈ (wRun L).lv, 0 ≤ p.1 ∧ p.1 ≤ (wRun L).bh ∧ 0 ≤ p.2 ∧ p.2 ≤ (wRun L).bh)
  | [], _, _ => by simp [wRun, depth]
  | d :: r, hr, hd => by
    obtain ⟨h1, h2, h3, h4, h5⟩ := wRun_ok r (fun x hx => hr x (by simp [hx])) (fun j => by simpa using hd (j + 1))
    have hw := wide_ok d (hr d (by simp))
    have hd0 := hd 0
    have hd1 := hd 1
    simp only [List.drop_zero, depth, List.drop_succ_cons] at hd0 hd1
    rw [show wRun (d :: r) = wNext d (wRun r) from rfl]
    cases hl : (wRun r).lv with
    | nil => rw [hl] at h2; simp at h2; omega
    | cons p q =>
      obtain ⟨e, x⟩ := p
      rw [hl] at h2 h5
      simp only [List.length_cons] at h2
      rw [wNext_cons d _ e x q hl]
      have hp := h5 (e, x) (by simp)
      have hq := fun p (hp : p ∈ q) => h5 p (by simp [hp])
      simp only at hp
      simp only [List.length_cons, h1, true_and, depth]
      refine ⟨?_, by omega, by omega, ?_⟩
      · unfold wLv opens
        unfold opens at hd0
        by_cases k7 : d.k = 7
        · simp [k7] at hd0 ⊢; omega
        · by_cases k6 : d.k = 6
          · simp [k6] at hd0 ⊢; omega
          · simp only [k7, k6, if_false] at hd0 ⊢; split <;> simp only [List.length_cons] <;> omega
      · intro p hp'
        unfold wLv at hp'
        have hb := hw.1
        by_cases k7 : d.k = 7
        · rw [if_pos k7] at hp'
          rcases List.mem_cons.1 hp' with rfl | hp'
          · simp; omega
          · rcases List.mem_cons.1 hp' with rfl | hp'
            · simp; omega
            · have := hq p hp'; omega
        · rw [if_neg k7] at hp'
          by_cases k6 : d.k = 6
          · rw [if_pos k6] at hp'
            have := hq p hp'; omega
          · rw [if_neg k6] at hp'
            split at hp'
            · rcases List.mem_cons.1 hp' with rfl | hp'
              · simp; omega
              · have := hq p hp'; omega
            · rcases List.mem_cons.1 hp' with rfl | hp'
              · simp; omega
              · have := hq p hp'; omega
theorem make_at {P : Program} (w : World) {ops : Array Oper} {rest : List Oper} {o : Oper} {a : Act} {Q : Exit → Act → World → Prop} (hg : o.guard = none) (l c : Operand) (t : TypeId) (hop : o.op = Op.makeSlice t l c)
    (base : Nat) (e : TypeId) {z : Value} {size bytes : Nat} (ht : P.underlying t = some (.slice e)) (hinf : (P.info? e).map (fun i => (i.zero, i.size, i.bytes)) = some (some z, size, bytes)) (hzs : z.cells.size = size)
    (kl kc : IntKind) (n : Nat) (hl : a.eval l = .int kl n) (hc : a.eval c = .int kc n) (b2 : bytes * n ≤ 281474976710656) (b3 : n ≤ 4611686018427387904) (b4 : base ≤ w.heap.size)
    (hK : (w.alloc (.cells (madeCells z.cells (n * size)) e)).ownsRow base e size (.slice (some ⟨w.heap.size, 0, none⟩) n n) n (madeCells z.cells (n * size)).toList → wpList P ops Q rest (a.put o.dst (.slice (some ⟨w.heap.size, 0, none⟩) n n)) (w.alloc (.cells (madeCells z.cells (n * size)) e))) :
    wpList P ops Q (o :: rest) a w := by
  refine wpList_plain hg fun K hK' => ?_
  obtain ⟨i, hi, hz0, hz1, hz2⟩ := info_parts hinf
  have hb3 : (n : Int) ≤ 9223372036854775807 := by omega
  have hb2 : (i.bytes : Int) * (n : Int) ≤ 281474976710656 := by
    have h : ((i.bytes * n : Nat) : Int) ≤ 281474976710656 := by rw [hz2]; omega
    rwa [Int.natCast_mul] at h
  have hrun := run_make (P := P) (w := w) t e i z ht hi hz0 kl kc (n : Int) (n : Int) (by omega) (Int.le_refl _) hb2 hb3
  simp only [Int.toNat_natCast, hz1] at hrun
  unfold Oper.wp
  simp [execOp, hop, hl, hc, hrun, Result.andThen]
  exact hK' _ _ (hK (World.ownsRow_lit w _ n b4 (by unfold maxLen; omega) (size_madeCells _ _)))
theorem wRun_out_len (L : List DocV) (h : (∀ d ∈ L, rightB d = true) ∧ ∀ j, 0 ≤ - depth (L.drop j)) : (wRun L).out.length = L.length := (wRun_ok L h.1 h.2).1
theorem depth_ge : ∀ (L : List DocV), -(L.length : Int) ≤ depth L
  | [] => by simp [depth]
  | d :: r => by have := depth_ge r; simp only [depth, List.length_cons]; unfold opens; split <;> (try split) <;> omega
theorem blk_at {w : World} {b b' : Nat} {cs : Array Value} {t : TypeId} (h : Blk w b cs t) (e : b = b') : Blk w b' cs t := e ▸ h
set_option maxHeartbeats 4000000 in
set_option maxRecDepth 100000 in
theorem whole_widths (ao : Option Addr) (cap : Nat) (L : List DocV) (w : World) (hL : Docs w ao L) (hl : L.length ≤ 2097152) (hT : Tabs w) (hg1 : 0 < w.heap.size) (hg2 : 1 < w.heap.size) (hr : ∀ d ∈ L, rightB d = true) (hd : ∀ j, 0 ≤ - depth (L.drop j)) :
    Calls Tryd.prog 52 #[.slice ao L.length cap] w fun e w' => (∃ B : Nat, e = .returned (.slice (some ⟨B, 0, none⟩) L.length L.length) ∧ ∀ (i : Nat) (v : Int), (wRun L).out[i]? = some v → w'.cell? ⟨B, i, none⟩ = some (.int .i64 v)) ∧ Below w.heap.size w w' := by
  have hlow : ∀ b o, ao = some ⟨b, o, none⟩ → 0 < L.length → b < w.heap.size := fun b o e h => by
    obtain ⟨d, hd⟩ : ∃ d, L[0]? = some d := ⟨_, List.getElem?_eq_getElem h⟩
    obtain ⟨b', o', e', h0, _⟩ := hL 0 d hd
    rw [e] at e'; cases e'
    exact cell_lt h0
  replace hL := Lib.hid hL; replace hT := Lib.hid hT; replace hr := Lib.hid hr; replace hd := Lib.hid hd; replace hlow := Lib.hid hlow
  go_enter Tryd.func52, Tryd.ntmps52
  go_wp2_with (refine make_at _ rfl (.tmp 9) (.tmp 9) 56 rfl w.heap.size 3 Tryd.underlying56 infoI rfl .i64 .i64 L.length rfl rfl (by omega) (by omega) (by simp) ?_; intro hro)
  simp only [Nat.add_assoc, Nat.reduceAdd]
  generalize hW6 : World.alloc _ _ = W6
  have hz : (madeCells #[Value.int IntKind.i64 0] L.length).toList = List.replicate L.length (.int .i64 0) := toList_madeCells_one _ _
  have hst : Wst W6 w.heap.size L.length ao cap L (.slice (some ⟨w.heap.size + 4, 0, none⟩) 1 1) 0 [(0, 0)] (List.replicate L.length 0) ∧ Below w.heap.size w W6 := by
    rw [← hW6]
    refine ⟨⟨?_, ?_, ?_, ?_, ?_, ?_, ?_⟩, ?_⟩
    · exact (((((Blk.new w _ _).alloc _).alloc _).alloc _).alloc _).alloc _
    · have h1 := World.ownsRow_lit (e := 3) (size := 1) (base := w.heap.size) (w.alloc (.cells #[.slice ao L.length cap] 44)) (madeCells #[Value.int IntKind.i64 0] L.length) L.length (by simp) (by unfold maxLen; omega) (by rw [size_madeCells]; omega)
      rw [hz] at h1
      have h2 := ((((h1.alloc (.cells #[.slice (some ⟨w.heap.size + 1, 0, none⟩) L.length L.length] 56)).alloc (.cells #[.int .i64 0] 3)).alloc (.cells #[.int .i64 0, .int .i64 0] TL)).alloc (.cells #[.slice (some ⟨w.heap.size + 4, 0, none⟩) 1 1] 108))
      simpa using h2
    · exact blk_at ((((Blk.new _ _ _).alloc _).alloc _).alloc _) (by simp)
    · exact blk_at (((Blk.new _ _ _).alloc _).alloc _) (by simp)
    · have h1 := World.ownsRow_lit (e := TL) (size := 2) (base := w.heap.size) ((((w.alloc (.cells #[.slice ao L.length cap] 44)).alloc (.cells (madeCells #[Value.int IntKind.i64 0] L.length) 3)).alloc (.cells #[.slice (some ⟨w.heap.size + 1, 0, none⟩) L.length L.length] 56)).alloc (.cells #[.int .i64 0] 3)) #[.int .i64 0, .int .i64 0] 1 (by simp; omega) (by unfold maxLen; omega) rfl
      have h2 := h1.alloc (.cells #[.slice (some ⟨w.heap.size + 4, 0, none⟩) 1 1] 108)
      simpa [lvRow] using h2
    · intro k hk
      have : w.heap.size + 4 = k := by simpa [Value.ownBlock] using hk
      exact .inl this.symm
    · exact blk_at (Blk.new _ _ _) (by simp)
    · exact ((((((Below.refl _ _).alloc (Nat.le_refl _) _).alloc (by simp) _).alloc (by simp; omega) _).alloc (by simp; omega) _).alloc (by simp; omega) _).alloc (by simp; omega) _
  go_loopw [7] (fun iv W => ∃ (j : Nat) (vl : Value), iv = .int .i64 ((j : Int) - 1) ∧ j ≤ L.length ∧ Hid (Wst W w.heap.size L.length ao cap L vl (wRun (L.drop j)).bh (wRun (L.drop j)).lv (List.replicate j 0 ++ (wRun (L.drop j)).out)) ∧ Below w.heap.size w W) (fun iv _ => (RowKit.intOf iv + 1).toNat)
  case atStart => exact ⟨L.length, _, rfl, Nat.le_refl _, Lib.hid (by simpa [wRun] using hst.1), hst.2⟩
  case round =>
    obtain ⟨j, vl, rfl, hj, hS, hb⟩ := hrel
    replace hb := Lib.hid hb
    clear hst hW6 hz
    cases j with
    | zero =>
      have e0 : (((0 : Nat) : Int) - 1) = -1 := by omega
      rw [e0]
      have u1 := hS.out.ko.cell 0
      simp at u1
      have hfin : ∀ (i : Nat) (v : Int), (wRun L).out[i]? = some v → wr.cell? ⟨w.heap.size + 1, i, none⟩ = some (.int .i64 v) := fun i v hv => by
        have hro := hS.out.ro
        simp only [List.drop_zero, List.replicate_zero, List.nil_append] at hro
        have hlt := (List.getElem?_eq_some_iff.1 hv).1
        rw [(wRun_ok L hr.out hd.out).1] at hlt
        rw [World.ownsRow.cellAt hro i (by omega), List.getElem?_map, hv]; rfl
      replace hfin := Lib.hid hfin
      go_wp2_with fail
      go_ret
      exact ⟨⟨_, rfl, hfin.out⟩, hb.out⟩
    | succ i =>
      rw [show ((i + 1 : Nat) : Int) - 1 = (i : Int) by omega]
      obtain ⟨d, hdi⟩ : ∃ d, L[i]? = some d := ⟨_, List.getElem?_eq_getElem (by omega)⟩
      have hdr : L.drop i = d :: L.drop (i + 1) := by
        have := List.drop_eq_getElem_cons (show i < L.length by omega)
        rw [List.getElem?_eq_getElem (by omega)] at hdi
        rw [this, Option.some.inj hdi]
      have hok := wRun_ok (L.drop (i + 1)) (fun x hx => hr.out x (List.mem_of_mem_drop hx)) (fun j => by rw [List.drop_drop]; exact hd.out _)
      have hdd := hd.out (i + 1)
      obtain ⟨o1, o2, o3, o4, o5⟩ := hok
      rw [List.length_drop] at o1 o4
      have hmem : d ∈ L := List.mem_of_getElem? hdi
      have hw := wide_ok d (hr.out d hmem)
      obtain ⟨e, x, q, hlv⟩ : ∃ e x q, (wRun (L.drop (i + 1))).lv = (e, x) :: q := by
        cases hl : (wRun (L.drop (i + 1))).lv with
        | nil => rw [hl] at o2; simp at o2; omega
        | cons p q => exact ⟨p.1, p.2, q, rfl⟩
      have hx := o5 (e, x) (by rw [hlv]; simp)
      have hq : (q.length : Int) ≤ L.length := by
        have h1 := hd.out (i + 1)
        have h2 := depth_ge (L.drop (i + 1))
        rw [hlv] at o2
        rw [List.length_drop] at h2
        simp at o2; omega
      simp only at hx
      have hn := wNext_cons d _ e x q hlv
      rw [hlv] at hS
      have hlow' : ∀ b o, ao = some ⟨b, o, none⟩ → b < w.heap.size := fun b o e => hlow.out b o e (by omega)
      have hc := wst_step w.heap.size L.length i ao cap L vl _ e x q _ d wr hS.out (hL.out.below hb.out) hlow' hdi rfl hl ((hT.out.below hb.out)) (by omega) hw.2.2.2.1 ⟨o3, by omega⟩ ⟨hx.1, hx.2.1⟩ ⟨hx.2.2.1, hx.2.2.2⟩ (by omega)
      have hrep : wOut d i (wRun (L.drop (i + 1))).bh ((wRun (L.drop (i + 1))).bh + wideAs 1048576 d) e x (List.replicate (i + 1) 0 ++ (wRun (L.drop (i + 1))).out) = List.replicate i 0 ++ (wNext d (wRun (L.drop (i + 1)))).out := by
        rw [hn]
        have h1 : ∀ v : Int, (List.replicate (i + 1) (0 : Int) ++ (wRun (L.drop (i + 1))).out).set i v = List.replicate i 0 ++ v :: (wRun (L.drop (i + 1))).out := fun v => by
          rw [List.replicate_succ', List.append_assoc, List.set_append_right _ _ (by simp)]; simp
        unfold wOut
        split
        · rename_i h6; rw [h1]; try simp [h6]
        · split
          · rename_i h6 h3; rw [h1]; try simp [h3]
          · rename_i h6 h3; simp only [h6, h3, if_false]
            rw [List.replicate_succ', List.append_assoc]; rfl
      have hnext : ∀ W v, Wst W w.heap.size L.length ao cap L v ((wRun (L.drop (i + 1))).bh + wideAs 1048576 d) (wLv d (wRun (L.drop (i + 1))).bh ((wRun (L.drop (i + 1))).bh + wideAs 1048576 d) e x q) (wOut d i (wRun (L.drop (i + 1))).bh ((wRun (L.drop (i + 1))).bh + wideAs 1048576 d) e x (List.replicate (i + 1) 0 ++ (wRun (L.drop (i + 1))).out)) →
          Wst W w.heap.size L.length ao cap L v (wRun (L.drop i)).bh (wRun (L.drop i)).lv (List.replicate i 0 ++ (wRun (L.drop i)).out) := fun W v h => by
        rw [hrep] at h
        rw [hdr]
        rw [show wRun (d :: L.drop (i + 1)) = wNext d (wRun (L.drop (i + 1))) from rfl]
        rw [hn] at h ⊢
        exact h
      have hw1 : IntKind.i64.wrap ((i : Int) - 1) = i - 1 := IntWalk.i64_in _ (by omega)
      replace hc := Lib.hid hc; replace hnext := Lib.hid hnext
      clear hrep hn hlv hdi hdr o1 o2 o3 o4 o5 hx hq hmem hw hdd hlow'
      go_wp2_with fail
      refine hc.out.mono ?_
      rintro e' w2 ⟨rfl, ⟨vl', hS2⟩, b2⟩
      have hb2 := hb.out.trans b2
      have hS3 := Lib.hid (hnext.out _ _ hS2)
      replace hb2 := Lib.hid hb2
      clear hS2 b2 hnext hc
      go_wp2_with fail
      exact ⟨⟨i, vl', rfl, by omega, hS3, hb2.out⟩, by simp [RowKit.intOf]⟩
end Go.Proofs.YtphcmbdmkhmfbaaDoor
