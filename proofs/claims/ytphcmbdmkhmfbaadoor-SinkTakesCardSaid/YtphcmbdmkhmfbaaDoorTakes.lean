/- SinkTakes: what is taken, all together, does not hang on when it is taken: the walk. -/
import Derived.Test.YtphcmbdmkhmfbaaDoorDoes
import Derived.Test.YtphcmbdmkhmfbaaDoorPlays
import Derived.Test.YtphcmbdmkhmfbaaDoorApp
namespace Go.Proofs.YtphcmbdmkhmfbaaDoor
open Go.RowKit Go.Lib
/-- The slice that begins at bo holds these truth values. -/
def Bools (w : World) (bo : Option Addr) (B : List Bool) : Prop := ∀ (i : Nat) (c : Bool), B[i]? = some c → ∃ b o, bo = some ⟨b, o, none⟩ ∧ w.cell? ⟨b, o + i, none⟩ = some (.bool c)
theorem Bools.below {w w' : World} {bo : Option Addr} {B : List Bool} (h : Bools w bo B) (k : Below w.heap.size w w') : Bools w' bo B := fun i c hc => by
  obtain ⟨b, o, e, h0⟩ := h i c hc
  exact ⟨b, o, e, (k.cell (p := ⟨b, o + i, none⟩) (cell_lt h0)).trans h0⟩
/-- Two of the program's sinks and the bytes that were taken: none shares a block with another. -/
structure Trio (w0 W : World) (s t U : Nat) (vs vt vo : Value) (p q : Pn) (O : List UInt8) : Prop where
  ps : Pen W s vs p U
  pt : Pen W t vt q U
  d : Dis s vs t vt
  o : Buf W w0.heap.size vo O
  so : ∀ k, vo.ownBlock = some k → ¬ Own s vs k ∧ ¬ Own t vt k
  hb : Below w0.heap.size w0 W
  ls : w0.heap.size ≤ s
  lt : w0.heap.size ≤ t
theorem Trio.symm {w0 W : World} {s t U : Nat} {vs vt vo : Value} {p q : Pn} {O : List UInt8} (h : Trio w0 W s t U vs vt vo p q O) : Trio w0 W t s U vt vs vo q p O :=
  ⟨h.pt, h.ps, h.d.symm, h.o, fun k hk => ⟨(h.so k hk).2, (h.so k hk).1⟩, h.hb, h.lt, h.ls⟩
/-- A call on the first sink. -/
theorem Trio.left {w0 W W' : World} {s t U U' : Nat} {vs vt vo vs' : Value} {p q p' : Pn} {O : List UInt8} (h : Trio w0 W s t U vs vt vo p q O) (hU : U ≤ U') (k : Kept (Own s vs) W W') (n : Next W vs vs') (hp : Pen W' s vs' p' U') : Trio w0 W' s t U' vs' vt vo p' q O := by
  refine ⟨hp, ⟨⟨h.pt.sk.blk.kept k (h.d.symm t (.inl rfl)), h.pt.sk.buf.kept k (fun i hi => h.d.symm i (.inr hi))⟩, ?_, ?_, h.pt.ind⟩, h.d.next h.pt.sk n, h.o.kept k (fun i hi => (h.so i hi).1), fun i hi => ⟨fun e => ?_, (h.so i hi).2⟩, ?_, h.ls, h.lt⟩
  · have := h.pt.room; omega
  · have := h.pt.col; omega
  · rcases e with e | e
    · exact (h.so i hi).1 (.inl e)
    · rcases n i e with e | e
      · exact (h.so i hi).1 (.inr e)
      · have := (h.o.lt i hi).2; omega
  · exact h.hb.trans (k.below h.hb.size (fun i e => by have := h.ps.sk.ge i e; have := h.ls; omega))
/-- An append to what was taken. -/
theorem Trio.out {w0 W W' : World} {s t U : Nat} {vs vt vo vo' : Value} {p q : Pn} {O O' : List UInt8} (h : Trio w0 W s t U vs vt vo p q O) (hv : Buf W' w0.heap.size vo' O') (g : W.grownBy W' vo.ownBlock) (n : Next W vo vo') : Trio w0 W' s t U vs vt vo' p q O' := by
  have k : Kept (fun i => vo.ownBlock = some i) W W' := ⟨g.os, g.tape, g.output, g.size, fun i hi hn => g.block i hi (fun e => hn e.symm)⟩
  refine ⟨⟨⟨h.ps.sk.blk.kept k (fun e => (h.so _ e).1 (.inl rfl)), h.ps.sk.buf.kept k (fun i hi e => (h.so i e).1 (.inr hi))⟩, h.ps.room, h.ps.col, h.ps.ind⟩, ⟨⟨h.pt.sk.blk.kept k (fun e => (h.so _ e).2 (.inl rfl)), h.pt.sk.buf.kept k (fun i hi e => (h.so i e).2 (.inr hi))⟩, h.pt.room, h.pt.col, h.pt.ind⟩, h.d, hv, fun i hi => ?_, ?_, h.ls, h.lt⟩
  · rcases n i hi with e | e
    · exact h.so i e
    · exact ⟨fun e2 => by have := h.ps.sk.lt i e2; omega, fun e2 => by have := h.pt.sk.lt i e2; omega⟩
  · exact h.hb.trans (k.below h.hb.size (fun i e => (h.o.lt i e).1))
theorem Trio.kept {w0 W W' : World} {s t U : Nat} {vs vt vo : Value} {p q : Pn} {O : List UInt8} (h : Trio w0 W s t U vs vt vo p q O) (k : Below W.heap.size W W') : Trio w0 W' s t U vs vt vo p q O :=
  ⟨h.ps.below k, h.pt.below k, h.d, h.o.below k, h.so, h.hb.trans (k.mono h.hb.size), h.ls, h.lt⟩
theorem Trio.takeR {w0 W W' : World} {s t U : Nat} {vs vt vo : Value} {p q : Pn} {O : List UInt8} (h : Trio w0 W s t U vs vt vo p q O) (k : Kept (Own t vt) W W') (h2 : S7 W' t (.slice none 0 0) [] q.f q.x q.y q.z) : Trio w0 W' s t U vs (.slice none 0 0) vo p ⟨[], q.f, q.x, q.y, q.z⟩ O :=
  (h.symm.left (vs' := .slice none 0 0) (p' := ⟨[], q.f, q.x, q.y, q.z⟩) (Nat.le_refl _) k (fun k hk => by cases hk) ⟨h2, by have := h.pt.room; simp; omega, h.pt.col, h.pt.ind⟩).symm
set_option maxHeartbeats 4000000 in
set_option maxRecDepth 100000 in
theorem law_takes (ao bo : Option Addr) (S : List ActV) (B : List Bool) (cap cap2 : Nat) (w : World) (hA : Acts w ao S) (hB : Bools w bo B) (hT : Tabs w) : Calls Tryd.prog 5 #[.slice ao S.length cap, .slice bo B.length cap2] w fun e w' => e = .returned (.bool true) ∧ Below w.heap.size w w' := by
  have hg1 : 0 < w.heap.size := cell_lt (hT.1 0 _ rfl)
  have hg2 : 1 < w.heap.size := cell_lt (hT.2 0 _ rfl)
  replace hA := Lib.hid hA; replace hB := Lib.hid hB; replace hT := Lib.hid hT
  go_enter Tryd.func5, Tryd.ntmps5
  go_wp2_with fail
  refine (law_vast ao S cap w hA.out).mono ?_
  rintro e w' ⟨hv, rfl⟩
  rcases hv.symm with rfl | ⟨rfl, hsz⟩
  · go_wp2_with fail
    go_ret
    exact ⟨rfl, Below.refl _ _⟩
  have hS : S.length ≤ 16777216 := by omega
  go_wp2_with fail
  refine (law_deep ao S cap _ hA.out hS).mono ?_
  rintro e w' ⟨hv2, rfl⟩
  rcases hv2.symm with rfl | rfl
  · go_wp2_with fail
    go_ret
    exact ⟨rfl, Below.refl _ _⟩
  by_cases hbl : (16777216 : Int) < B.length
  · go_wp2_with fail
    go_ret
    exact ⟨rfl, Below.refl _ _⟩
  go_wp2_with fail
  refine (sk_New _).mono ?_
  rintro e w1 ⟨rfl, s1, b1⟩
  go_wp2_with fail
  refine (sk_New _).mono ?_
  rintro e w2 ⟨rfl, t2, b2⟩
  have z1 := b1.size; have z2 := b2.size
  have l1 := s1.blk.lt; have l2 := t2.blk.lt
  have hb : Below w'.heap.size w' w2 := b1.trans (b2.mono z1)
  have h0 : Trio w' w2 w'.heap.size w1.heap.size 0 (.slice none 0 0) (.slice none 0 0) (.slice none 0 0) ⟨[], false, 0, 0, 0⟩ ⟨[], false, 0, 0, 0⟩ [] :=
    ⟨⟨s1.below b2, by simp, by simp, by simp⟩, ⟨t2, by simp, by simp, by simp⟩, fun k h1 h2 => by rcases h1 with h1 | h1 <;> rcases h2 with h2 | h2 <;> first | (cases h1; done) | (cases h2; done) | omega, Buf.nil _ _, (fun k hk => by cases hk), hb, by omega, by omega⟩
  obtain ⟨S1, hS1⟩ : ∃ n, w'.heap.size = n := ⟨_, rfl⟩
  obtain ⟨S2, hS2⟩ : ∃ n, w1.heap.size = n := ⟨_, rfl⟩
  rw [hS1, hS2] at h0
  replace h0 := Lib.hid h0
  clear b1 b2 s1 t2 hb
  go_wp2_with fail
  go_loopw [7, 8] (fun ov iv W => ∃ (i : Nat) (vs1 vt1 : Value) (p q : Pn) (O : List UInt8), iv = .int .i64 i ∧ i ≤ S.length ∧ Trio w' W S1 S2 (i + vs (S.take i)) vs1 vt1 ov p q O ∧ O ++ p.l = q.l ∧ p.f = q.f ∧ p.x = q.x ∧ p.y = q.y ∧ p.z = q.z) (fun _ iv _ => S.length - (RowKit.intOf iv).toNat)
  case atStart => exact ⟨0, _, _, _, _, _, rfl, by omega, h0.out, rfl, rfl, rfl, rfl, rfl⟩
  case round =>
    obtain ⟨i, vs1, vt1, p, q, O, rfl, hi, hM, hpq, hf, hx, hy, hzz⟩ := hrel
    have hM := Lib.hid hM
    obtain ⟨va, vn, vc, rfl⟩ := hM.out.o.sh
    clear h0
    by_cases hlt : i < S.length
    · obtain ⟨a, ha⟩ : ∃ a, S[i]? = some a := ⟨_, List.getElem?_eq_getElem hlt⟩
      obtain ⟨b, o, rfl, c0, c1, c2, c3⟩ := (hA.out.below hM.out.hb) i a ha
      have hi1 : (i : Int) < S.length := by omega
      have hi2 : (0 : Int) ≤ i := by omega
      have wi : IntKind.i64.wrap ((i : Int) + 1) = i + 1 := IntWalk.i64_in _ (by omega)
      have hvs := vs_take S i a ha
      have hle := vs_le S i
      have hle2 := vs_le S (i + 1)
      have hmeas : S.length - (RowKit.intOf (.int .i64 ((i : Int) + 1))).toNat < S.length - (RowKit.intOf (.int .i64 (i : Int))).toNat := by simp [RowKit.intOf]; omega
      obtain ⟨p2, hp2⟩ : ∃ r, dPn a p = r := ⟨_, rfl⟩
      obtain ⟨q2, hq2⟩ : ∃ r, dPn a q = r := ⟨_, rfl⟩
      have hpq2 : O ++ p2.l = q2.l ∧ p2.f = q2.f ∧ p2.x = q2.x ∧ p2.y = q2.y ∧ p2.z = q2.z := by
        rw [← hp2, ← hq2]; unfold dPn; simp only; rw [← hf, ← hx, ← hy, ← hzz, ← hpq]; simp [List.append_assoc]
      obtain ⟨g1, g2, g3, g4, g5⟩ := hpq2
      replace ha := Lib.hid ha; replace hpq := Lib.hid hpq; replace hf := Lib.hid hf; replace hx := Lib.hid hx; replace hy := Lib.hid hy; replace hzz := Lib.hid hzz
      replace hp2 := Lib.hid hp2; replace hq2 := Lib.hid hq2; replace g1 := Lib.hid g1; replace g2 := Lib.hid g2; replace g3 := Lib.hid g3; replace g4 := Lib.hid g4; replace g5 := Lib.hid g5
      go_wp2_with fail
      refine (law_does S1 vs1 p (i + vs (S.take i)) a _ hM.out.ps (by omega) (hT.out.below hM.out.hb) (by have := hM.out.ls; omega) (by have := hM.out.ls; omega)).mono ?_
      rintro e w3 ⟨rfl, vs2, P3, n3, k3⟩
      rw [hp2.out] at P3
      have h3 := Lib.hid (hM.out.left (U' := i + 1 + vs (S.take (i + 1))) (by omega) k3 n3 (P3.mono (by omega)))
      obtain ⟨b', o', e', c0, c1, c2, c3⟩ := (hA.out.below h3.out.hb) i a ha.out
      obtain ⟨rfl, rfl⟩ : b = b' ∧ o = o' := by cases e'; exact ⟨rfl, rfl⟩
      clear e'
      go_wp2_with fail
      refine (law_does S2 vt1 q (i + vs (S.take i)) a _ ⟨h3.out.pt.sk, hM.out.pt.room, hM.out.pt.col, hM.out.pt.ind⟩ (by omega) (hT.out.below h3.out.hb) (by have := hM.out.lt; omega) (by have := hM.out.lt; omega)).mono ?_
      rintro e w4 ⟨rfl, vt2, P4, n4, k4⟩
      rw [hq2.out] at P4
      have h4 := Lib.hid (h3.out.symm.left (Nat.le_refl _) k4 n4 (P4.mono (by omega))).symm
      clear h3 P3 P4 k3 n3 k4 n4
      by_cases hb1 : (i : Int) < B.length
      · obtain ⟨cb, hcb⟩ : ∃ c, B[i]? = some c := ⟨_, List.getElem?_eq_getElem (by omega)⟩
        obtain ⟨bb, bo', rfl, cB⟩ := (hB.out.below h4.out.hb) i cb hcb
        replace hcb := Lib.hid hcb
        cases cb
        · obtain ⟨C, hC⟩ : ∃ C : Int, (if p2.f then (p2.y : Int) else p2.x) + p2.z = C := ⟨_, rfl⟩
          have hC6 : (if q2.f then (q2.y : Int) else q2.x) + q2.z = C := by rw [← hC, ← g2.out, ← g3.out, ← g4.out, ← g5.out]
          have hps := h4.out.ps.ind; have hpc := h4.out.ps.col; have hpt := h4.out.pt.ind; have hptc := h4.out.pt.col
          (try simp only at hps hpc)
          have c7 := sk_Column S1 vs2 p2.l p2.f p2.x p2.y p2.z _ h4.out.ps.sk (by omega) (by omega) (by omega)
          rw [hC] at c7
          replace c7 := Lib.hid c7; replace hC := Lib.hid hC; replace hC6 := Lib.hid hC6
          go_wp2_with fail
          refine c7.out.mono ?_
          rintro e w11 ⟨rfl, k11, s11⟩
          have h11 := Lib.hid (h4.out.left (Nat.le_refl _) k11 (Next.refl _ _) ⟨s11, h4.out.ps.room, h4.out.ps.col, h4.out.ps.ind⟩)
          clear k11 s11 c7
          have c8 := sk_Column S2 vt2 q2.l q2.f q2.x q2.y q2.z _ h11.out.pt.sk (by omega) (by omega) (by omega)
          rw [hC6.out] at c8
          replace c8 := Lib.hid c8
          go_wp2_with fail
          refine c8.out.mono ?_
          rintro e w12 ⟨rfl, k12, s12⟩
          have h12 := Lib.hid (h11.out.symm.left (Nat.le_refl _) k12 (Next.refl _ _) ⟨s12, h4.out.pt.room, h4.out.pt.col, h4.out.pt.ind⟩).symm
          clear k12 s12 c8 h11
          obtain ⟨F, hF⟩ : ∃ F : Bool, (!p2.f) = F := ⟨_, rfl⟩
          have hF6 : (!q2.f) = F := by rw [← hF, ← g2.out]
          have c9 := sk_Fresh S1 vs2 p2.l p2.f p2.x p2.y p2.z _ h12.out.ps.sk
          rw [hF] at c9
          replace c9 := Lib.hid c9; replace hF := Lib.hid hF; replace hF6 := Lib.hid hF6
          go_wp2_with fail
          refine c9.out.mono ?_
          rintro e w13 ⟨rfl, k13, s13⟩
          have h13 := Lib.hid (h12.out.left (Nat.le_refl _) k13 (Next.refl _ _) ⟨s13, h4.out.ps.room, h4.out.ps.col, h4.out.ps.ind⟩)
          clear k13 s13 c9 h12
          have c10 := sk_Fresh S2 vt2 q2.l q2.f q2.x q2.y q2.z _ h13.out.pt.sk
          rw [hF6.out] at c10
          replace c10 := Lib.hid c10
          go_wp2_with fail
          refine c10.out.mono ?_
          rintro e w14 ⟨rfl, k14, s14⟩
          have h14 := Lib.hid (h13.out.symm.left (Nat.le_refl _) k14 (Next.refl _ _) ⟨s14, h4.out.pt.room, h4.out.pt.col, h4.out.pt.ind⟩).symm
          clear k14 s14 c10 h13
          go_wp2_with fail
          exact ⟨⟨i + 1, _, _, p2, q2, O, by go_num, by omega, h14.out, g1.out, g2.out, g3.out, g4.out, g5.out⟩, hmeas⟩
        · go_wp2_with fail
          refine (sk_Take S1 vs2 p2.l p2.f p2.x p2.y p2.z _ h4.out.ps.sk).mono ?_
          rintro e w5 ⟨rfl, k5, s5⟩
          obtain ⟨p3, hp3⟩ : ∃ r : Pn, r = ⟨[], p2.f, p2.x, p2.y, p2.z⟩ := ⟨_, rfl⟩
          have hp3f : p3.f = p2.f := by rw [hp3]
          have hp3x : p3.x = p2.x := by rw [hp3]
          have hp3y : p3.y = p2.y := by rw [hp3]
          have hp3z : p3.z = p2.z := by rw [hp3]
          have hp3l : p3.l = [] := by rw [hp3]
          have P5 : Pen w5 S1 (.slice none 0 0) p3 (i + 1 + vs (S.take (i + 1))) := ⟨by rw [hp3]; exact s5, by have := h4.out.ps.room; rw [hp3]; simp; omega, by have := h4.out.ps.col; rw [hp3]; exact this, by rw [hp3]; exact h4.out.ps.ind⟩
          have h5 := Lib.hid (h4.out.left (Nat.le_refl _) k5 (fun k hk => by cases hk) P5)
          have hrm := h4.out.pt.room
          have hOl : O.length + p2.l.length ≤ q2.l.length := by rw [← g1.out]; simp
          replace hp3 := Lib.hid hp3; replace hp3f := Lib.hid hp3f; replace hp3x := Lib.hid hp3x; replace hp3y := Lib.hid hp3y; replace hp3z := Lib.hid hp3z; replace hp3l := Lib.hid hp3l
          clear k5 s5 P5
          go_wp2_with (at_builtin; refine app_str_at rfl _ _ rfl w'.heap.size rfl ⟨p2.l.toArray⟩ h5.out.o rfl (by show _ + p2.l.toArray.size ≤ _; rw [List.size_toArray]; omega) h5.out.hb.size ?_; intro vo6 w6 hv6 hg6 hn6; obtain ⟨va6, vn6, vc6, rfl⟩ := hv6.sh; have h6 := Lib.hid (h5.out.out hv6 hg6 hn6); clear hv6 hg6 hn6 h5 h4)
          have c6 : Calls Tryd.prog 18 #[.pointer (some ⟨S1, 0, none⟩)] w6 fun e w' => e = .returned (.string ⟨#[]⟩) ∧ Kept (Own S1 (.slice none 0 0)) w6 w' ∧ S7 w' S1 (.slice none 0 0) p3.l p3.f p3.x p3.y p3.z :=
            (sk_Take S1 (.slice none 0 0) p3.l p3.f p3.x p3.y p3.z w6 h6.out.ps.sk).mono fun e w' ⟨h1, h2, h3⟩ => ⟨by rw [h1, hp3l.out], h2, by rw [hp3l.out]; exact h3⟩
          go_wp2_with fail
          refine c6.mono ?_
          rintro e w7 ⟨rfl, k7, s7⟩
          have h7 := Lib.hid (h6.out.left (Nat.le_refl _) k7 (Next.refl _ _) ⟨s7, h6.out.ps.room, h6.out.ps.col, h6.out.ps.ind⟩)
          have g1' : Hid (O ++ (⟨p2.l.toArray⟩ : ByteArray).data.toList ++ p3.l = q2.l) := Lib.hid (by rw [hp3l.out, ← g1.out]; simp)
          replace g2 := Lib.hid (hp3f.out.trans g2.out); replace g3 := Lib.hid (hp3x.out.trans g3.out); replace g4 := Lib.hid (hp3y.out.trans g4.out); replace g5 := Lib.hid (hp3z.out.trans g5.out)
          clear h6 c6 k7 s7 g1
          obtain ⟨C, hC⟩ : ∃ C : Int, (if p3.f then (p3.y : Int) else p3.x) + p3.z = C := ⟨_, rfl⟩
          have hC6 : (if q2.f then (q2.y : Int) else q2.x) + q2.z = C := by rw [← hC, ← g2.out, ← g3.out, ← g4.out, ← g5.out]
          have hps := h7.out.ps.ind; have hpc := h7.out.ps.col; have hpt := h7.out.pt.ind; have hptc := h7.out.pt.col
          (try simp only at hps hpc)
          have c7 := sk_Column S1 (.slice none 0 0) p3.l p3.f p3.x p3.y p3.z _ h7.out.ps.sk (by omega) (by omega) (by omega)
          rw [hC] at c7
          replace c7 := Lib.hid c7; replace hC := Lib.hid hC; replace hC6 := Lib.hid hC6
          go_wp2_with fail
          refine c7.out.mono ?_
          rintro e w11 ⟨rfl, k11, s11⟩
          have h11 := Lib.hid (h7.out.left (Nat.le_refl _) k11 (Next.refl _ _) ⟨s11, h7.out.ps.room, h7.out.ps.col, h7.out.ps.ind⟩)
          clear k11 s11 c7
          have c8 := sk_Column S2 vt2 q2.l q2.f q2.x q2.y q2.z _ h11.out.pt.sk (by omega) (by omega) (by omega)
          rw [hC6.out] at c8
          replace c8 := Lib.hid c8
          go_wp2_with fail
          refine c8.out.mono ?_
          rintro e w12 ⟨rfl, k12, s12⟩
          have h12 := Lib.hid (h11.out.symm.left (Nat.le_refl _) k12 (Next.refl _ _) ⟨s12, h7.out.pt.room, h7.out.pt.col, h7.out.pt.ind⟩).symm
          clear k12 s12 c8 h11
          obtain ⟨F, hF⟩ : ∃ F : Bool, (!p3.f) = F := ⟨_, rfl⟩
          have hF6 : (!q2.f) = F := by rw [← hF, ← g2.out]
          have c9 := sk_Fresh S1 (.slice none 0 0) p3.l p3.f p3.x p3.y p3.z _ h12.out.ps.sk
          rw [hF] at c9
          replace c9 := Lib.hid c9; replace hF := Lib.hid hF; replace hF6 := Lib.hid hF6
          go_wp2_with fail
          refine c9.out.mono ?_
          rintro e w13 ⟨rfl, k13, s13⟩
          have h13 := Lib.hid (h12.out.left (Nat.le_refl _) k13 (Next.refl _ _) ⟨s13, h7.out.ps.room, h7.out.ps.col, h7.out.ps.ind⟩)
          clear k13 s13 c9 h12
          have c10 := sk_Fresh S2 vt2 q2.l q2.f q2.x q2.y q2.z _ h13.out.pt.sk
          rw [hF6.out] at c10
          replace c10 := Lib.hid c10
          go_wp2_with fail
          refine c10.out.mono ?_
          rintro e w14 ⟨rfl, k14, s14⟩
          have h14 := Lib.hid (h13.out.symm.left (Nat.le_refl _) k14 (Next.refl _ _) ⟨s14, h7.out.pt.room, h7.out.pt.col, h7.out.pt.ind⟩).symm
          clear k14 s14 c10 h13
          go_wp2_with fail
          exact ⟨⟨i + 1, _, _, p3, q2, (O ++ (⟨p2.l.toArray⟩ : ByteArray).data.toList), by go_num, by omega, h14.out, g1'.out, g2.out, g3.out, g4.out, g5.out⟩, hmeas⟩
      · obtain ⟨C, hC⟩ : ∃ C : Int, (if p2.f then (p2.y : Int) else p2.x) + p2.z = C := ⟨_, rfl⟩
        have hC6 : (if q2.f then (q2.y : Int) else q2.x) + q2.z = C := by rw [← hC, ← g2.out, ← g3.out, ← g4.out, ← g5.out]
        have hps := h4.out.ps.ind; have hpc := h4.out.ps.col; have hpt := h4.out.pt.ind; have hptc := h4.out.pt.col
        (try simp only at hps hpc)
        have c7 := sk_Column S1 vs2 p2.l p2.f p2.x p2.y p2.z _ h4.out.ps.sk (by omega) (by omega) (by omega)
        rw [hC] at c7
        replace c7 := Lib.hid c7; replace hC := Lib.hid hC; replace hC6 := Lib.hid hC6
        go_wp2_with fail
        refine c7.out.mono ?_
        rintro e w11 ⟨rfl, k11, s11⟩
        have h11 := Lib.hid (h4.out.left (Nat.le_refl _) k11 (Next.refl _ _) ⟨s11, h4.out.ps.room, h4.out.ps.col, h4.out.ps.ind⟩)
        clear k11 s11 c7
        have c8 := sk_Column S2 vt2 q2.l q2.f q2.x q2.y q2.z _ h11.out.pt.sk (by omega) (by omega) (by omega)
        rw [hC6.out] at c8
        replace c8 := Lib.hid c8
        go_wp2_with fail
        refine c8.out.mono ?_
        rintro e w12 ⟨rfl, k12, s12⟩
        have h12 := Lib.hid (h11.out.symm.left (Nat.le_refl _) k12 (Next.refl _ _) ⟨s12, h4.out.pt.room, h4.out.pt.col, h4.out.pt.ind⟩).symm
        clear k12 s12 c8 h11
        obtain ⟨F, hF⟩ : ∃ F : Bool, (!p2.f) = F := ⟨_, rfl⟩
        have hF6 : (!q2.f) = F := by rw [← hF, ← g2.out]
        have c9 := sk_Fresh S1 vs2 p2.l p2.f p2.x p2.y p2.z _ h12.out.ps.sk
        rw [hF] at c9
        replace c9 := Lib.hid c9; replace hF := Lib.hid hF; replace hF6 := Lib.hid hF6
        go_wp2_with fail
        refine c9.out.mono ?_
        rintro e w13 ⟨rfl, k13, s13⟩
        have h13 := Lib.hid (h12.out.left (Nat.le_refl _) k13 (Next.refl _ _) ⟨s13, h4.out.ps.room, h4.out.ps.col, h4.out.ps.ind⟩)
        clear k13 s13 c9 h12
        have c10 := sk_Fresh S2 vt2 q2.l q2.f q2.x q2.y q2.z _ h13.out.pt.sk
        rw [hF6.out] at c10
        replace c10 := Lib.hid c10
        go_wp2_with fail
        refine c10.out.mono ?_
        rintro e w14 ⟨rfl, k14, s14⟩
        have h14 := Lib.hid (h13.out.symm.left (Nat.le_refl _) k14 (Next.refl _ _) ⟨s14, h4.out.pt.room, h4.out.pt.col, h4.out.pt.ind⟩).symm
        clear k14 s14 c10 h13
        go_wp2_with fail
        exact ⟨⟨i + 1, _, _, p2, q2, O, by go_num, by omega, h14.out, g1.out, g2.out, g3.out, g4.out, g5.out⟩, hmeas⟩
    · have hi1 : ¬ (i : Int) < S.length := by omega
      have he : i = S.length := by omega
      subst he
      rw [List.take_length] at hM
      have hrm := hM.out.pt.room
      have hOl : O.length + p.l.length = q.l.length := by rw [← hpq]; simp
      go_wp2_with fail
      refine (sk_Take S1 vs1 p.l p.f p.x p.y p.z _ hM.out.ps.sk).mono ?_
      rintro e w5 ⟨rfl, k5, s5⟩
      have P5 : Pen w5 S1 (.slice none 0 0) ⟨[], p.f, p.x, p.y, p.z⟩ (S.length + vs S) := ⟨s5, by have := hM.out.ps.room; simp; omega, hM.out.ps.col, hM.out.ps.ind⟩
      have h5 := Lib.hid (hM.out.left (Nat.le_refl _) k5 (fun k hk => by cases hk) P5)
      replace hpq := Lib.hid hpq; replace hf := Lib.hid hf; replace hx := Lib.hid hx; replace hy := Lib.hid hy; replace hzz := Lib.hid hzz
      clear k5 s5 P5
      go_wp2_with (at_builtin; refine app_str_at rfl _ _ rfl w'.heap.size rfl ⟨p.l.toArray⟩ h5.out.o rfl (by show _ + p.l.toArray.size ≤ _; rw [List.size_toArray]; omega) h5.out.hb.size ?_; intro vo6 w6 hv6 hg6 hn6; obtain ⟨va6, vn6, vc6, rfl⟩ := hv6.sh; have h6 := Lib.hid (h5.out.out hv6 hg6 hn6); clear hv6 hg6 hn6 h5 hM)
      have hcd : (convert 39 9 (.slice va6 vn6 vc6)).run Tryd.prog w6.drew = .ok (.string ⟨(O ++ p.l).toArray⟩) w6.drew := by
        have h := buf_string (w := w6.drew) (B := w'.heap.size) (v := .slice va6 vn6 vc6) (l := O ++ p.l) (by have h := h6.out.o; first | exact h | (simp at h; exact h))
        exact h
      rw [hpq.out] at hcd
      have c7 := sk_Take S2 vt1 q.l q.f q.x q.y q.z w6.drew h6.out.pt.sk.drew
      replace c7 := Lib.hid c7
      have hbd := h6.out.hb
      go_region_with (first
        | (go_at_call 18; refine c7.out.mono ?_; rintro e w7 ⟨rfl, k7, s7⟩
           have h7 : Trio w' w7 S1 S2 _ (.slice none 0 0) (.slice none 0 0) (.slice va6 vn6 vc6) ⟨[], p.f, p.x, p.y, p.z⟩ ⟨[], q.f, q.x, q.y, q.z⟩ _ := h6.out.takeR ⟨k7.os, k7.tape, k7.output, k7.size, k7.block⟩ s7
           have hcd : (convert 39 9 (.slice va6 vn6 vc6)).run Tryd.prog w7 = .ok (.string ⟨q.l.toArray⟩) w7 := by
             have h := buf_string (w := w7) (B := w'.heap.size) (v := .slice va6 vn6 vc6) (l := O ++ p.l) (by have := h7.o; simpa using this)
             rw [hpq.out] at h
             exact h
           replace h7 := Lib.hid h7
           clear k7 s7 c7)
        | (go_at_call 19; refine (awake_true w7 (hT.out.below h7.out.hb) (by have := h7.out.hb.size; omega) (by have := h7.out.hb.size; omega)).mono ?_; rintro e w8 ⟨rfl, b8⟩; have hb8 := h7.out.hb.trans (b8.mono h7.out.hb.size)))
      all_goals
        go_wp2_with fail
        go_ret
        (try simp)
        exact ⟨rfl, hb8⟩
end Go.Proofs.YtphcmbdmkhmfbaaDoor
