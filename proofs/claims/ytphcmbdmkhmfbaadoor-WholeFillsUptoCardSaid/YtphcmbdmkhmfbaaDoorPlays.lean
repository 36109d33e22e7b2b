/- SinkPlays: every script of calls on two sinks: the walk. -/
import Derived.Test.YtphcmbdmkhmfbaaDoorScript
namespace Go.Proofs.YtphcmbdmkhmfbaaDoor
open Go.RowKit Go.Lib
/-- Two pairs of sinks share nothing. -/
def Apart (s r : Nat) (vs vr : Value) (t q : Nat) (vt vq : Value) : Prop := ∀ k, (Own s vs k ∨ Own r vr k) → ¬ (Own t vt k ∨ Own q vq k)
theorem Apart.symm {s r : Nat} {vs vr : Value} {t q : Nat} {vt vq : Value} (h : Apart s r vs vr t q vt vq) : Apart t q vt vq s r vs vr := fun k h1 h2 => h k h2 h1
theorem Duo.lt {w : World} {s r : Nat} {vs vr : Value} {l : List UInt8} {f : Bool} {x y7 y6 z U : Nat} (h : Duo w s r vs vr l f x y7 y6 z U) : ∀ k, (Own s vs k ∨ Own r vr k) → k < w.heap.size := fun k e => by
  rcases e with e | e
  · exact h.sk.lt k e
  · exact h.rf.lt k e
theorem Duo.kept {own : Nat → Prop} {w w' : World} {s r : Nat} {vs vr : Value} {l : List UInt8} {f : Bool} {x y7 y6 z U : Nat} (h : Duo w s r vs vr l f x y7 y6 z U) (k : Kept own w w') (hn : ∀ i, (Own s vs i ∨ Own r vr i) → ¬ own i) : Duo w' s r vs vr l f x y7 y6 z U :=
  ⟨⟨h.sk.blk.kept k (hn _ (.inl (.inl rfl))), h.sk.buf.kept k (fun _ hi => hn _ (.inl (.inr hi)))⟩, ⟨h.rf.blk.kept k (hn _ (.inr (.inl rfl))), h.rf.buf.kept k (fun _ hi => hn _ (.inr (.inr hi)))⟩, h.eqy, h.room, h.col7, h.col6, h.ind, h.dis⟩
theorem Apart.next {w w' : World} {s r : Nat} {vs vr vs' vr' : Value} {t q : Nat} {vt vq : Value} {l : List UInt8} {f : Bool} {x y7 y6 z U : Nat} (h : Apart s r vs vr t q vt vq) (k : Two w s r vs vr w' vs' vr') (D : Duo w t q vt vq l f x y7 y6 z U) : Apart s r vs' vr' t q vt vq := fun i h1 h2 => by
  have hl := D.lt i h2
  rcases h1 with (e | e) | (e | e)
  · exact h i (.inl (.inl e)) h2
  · rcases k.n7 i e with e | e
    · exact h i (.inl (.inr e)) h2
    · omega
  · exact h i (.inr (.inl e)) h2
  · rcases k.n6 i e with e | e
    · exact h i (.inr (.inr e)) h2
    · omega
/-- Calls on sinks that lie from B on turn nothing below B. -/
theorem Two.below' {B : Nat} {w w' : World} {s r : Nat} {vs vr vs' vr' : Value} {l : List UInt8} {f : Bool} {x y7 y6 z U : Nat} (k : Two w s r vs vr w' vs' vr') (D : Duo w s r vs vr l f x y7 y6 z U) (hs : B ≤ s) (hr : B ≤ r) (hB : B ≤ w.heap.size) : Below B w w' :=
  k.kept.below hB (fun i e => by
    rcases e with e | e
    · have := D.sk.ge i e; omega
    · have := D.rf.ge i e; omega)
/-- Two pairs of sinks, each pair alike, that share nothing; and what lay when the law began lies as it lay. -/
structure Scene (w0 W : World) (s r t q U : Nat) : Prop where
  ex : ∃ vs vr vt vq, (∃ l f x y7 y6 z, Duo W s r vs vr l f x y7 y6 z U) ∧ (∃ l f x y7 y6 z, Duo W t q vt vq l f x y7 y6 z U) ∧ Apart s r vs vr t q vt vq
  hb : Below w0.heap.size w0 W
  ls : w0.heap.size ≤ s
  lr : w0.heap.size ≤ r
  lt : w0.heap.size ≤ t
  lq : w0.heap.size ≤ q
theorem Scene.symm {w0 W : World} {s r t q U : Nat} (h : Scene w0 W s r t q U) : Scene w0 W t q s r U := by
  obtain ⟨vs, vr, vt, vq, h1, h2, h3⟩ := h.ex
  exact ⟨⟨vt, vq, vs, vr, h2, h1, h3.symm⟩, h.hb, h.lt, h.lq, h.ls, h.lr⟩
theorem Scene.mono {w0 W : World} {s r t q U U' : Nat} (h : Scene w0 W s r t q U) (hU : U ≤ U') : Scene w0 W s r t q U' := by
  obtain ⟨vs, vr, vt, vq, ⟨a1, a2, a3, a4, a5, a6, h1⟩, ⟨b1, b2, b3, b4, b5, b6, h2⟩, h3⟩ := h.ex
  exact ⟨⟨vs, vr, vt, vq, ⟨_, _, _, _, _, _, h1.mono hU⟩, ⟨_, _, _, _, _, _, h2.mono hU⟩, h3⟩, h.hb, h.ls, h.lr, h.lt, h.lq⟩
theorem one_left (w0 W : World) (s r t q U : Nat) (h : Scene w0 W s r t q U) (hT : Tabs w0) (k : Int) (ot : Bool) (tx : ByteArray) (n : Int) (hU : U + tx.size ≤ 17179869184) :
    Calls Tryd.prog 24 #[.pointer (some ⟨s, 0, none⟩), .pointer (some ⟨r, 0, none⟩), .agg #[.int .i64 k, .bool ot, .string tx, .int .i64 n]] W fun e W' => e = .returned (.bool true) ∧ Scene w0 W' s r t q (U + tx.size + clampN n + 1) := by
  obtain ⟨vs, vr, vt, vq, ⟨l, f, x, y7, y6, z, D1⟩, ⟨b1, b2, b3, b4, b5, b6, D2⟩, hap⟩ := h.ex
  have hg1 : 0 < w0.heap.size := cell_lt (hT.1 0 _ rfl)
  have hg2 : 1 < w0.heap.size := cell_lt (hT.2 0 _ rfl)
  have hs := h.ls
  refine (law_one s r vs vr l f x y7 y6 z U k ot tx n W D1 hU (hT.below h.hb) (by omega) (by omega)).mono ?_
  rintro e W' ⟨rfl, vs', vr', l', f', x', y7', y6', z', D1', T1⟩
  exact ⟨rfl, ⟨vs', vr', vt, vq, ⟨_, _, _, _, _, _, D1'⟩, ⟨_, _, _, _, _, _, (D2.kept T1.kept hap.symm).mono (by omega)⟩, hap.next T1 D2⟩, h.hb.trans (T1.below' D1 h.ls h.lr h.hb.size), h.ls, h.lr, h.lt, h.lq⟩
theorem one_right (w0 W : World) (s r t q U : Nat) (h : Scene w0 W s r t q U) (hT : Tabs w0) (k : Int) (ot : Bool) (tx : ByteArray) (n : Int) (hU : U + tx.size ≤ 17179869184) :
    Calls Tryd.prog 24 #[.pointer (some ⟨t, 0, none⟩), .pointer (some ⟨q, 0, none⟩), .agg #[.int .i64 k, .bool ot, .string tx, .int .i64 n]] W fun e W' => e = .returned (.bool true) ∧ Scene w0 W' s r t q (U + tx.size + clampN n + 1) :=
  (one_left w0 W t q s r U h.symm hT k ot tx n hU).mono fun _ _ ⟨h1, h2⟩ => ⟨h1, h2.symm⟩
theorem vs_le : ∀ (S : List ActV) (i : Nat), vs (S.take i) ≤ vs S
  | [], i => by simp [vs]
  | b :: r, 0 => by simp [vs]
  | b :: r, i + 1 => by have := vs_le r i; simp only [List.take_succ_cons, vs]; omega
set_option maxHeartbeats 4000000 in
set_option maxRecDepth 100000 in
theorem law_plays (ao : Option Addr) (S : List ActV) (cap : Nat) (w : World) (hA : Acts w ao S) (hT : Tabs w) : Calls Tryd.prog 4 #[.slice ao S.length cap] w fun e w' => e = .returned (.bool true) ∧ Below w.heap.size w w' := by
  have hg1 : 0 < w.heap.size := cell_lt (hT.1 0 _ rfl)
  have hg2 : 1 < w.heap.size := cell_lt (hT.2 0 _ rfl)
  replace hA := Lib.hid hA; replace hT := Lib.hid hT
  go_enter Tryd.func4, Tryd.ntmps4
  go_wp2_with fail
  refine (law_vast ao S cap w hA.out).mono ?_
  rintro e w' ⟨hv, rfl⟩
  rcases hv.symm with rfl | ⟨rfl, hsz⟩
  · go_wp2_with fail
    go_ret
    exact ⟨rfl, Below.refl _ _⟩
  have hS : S.length ≤ 16777216 := by omega
  go_wp2_with fail
  refine (law_deep ao S cap _ hA.out hS).mono ?_
  rintro e w' ⟨hv2, rfl⟩
  rcases hv2.symm with rfl | rfl
  · go_wp2_with fail
    go_ret
    exact ⟨rfl, Below.refl _ _⟩
  go_wp2_with fail
  refine (sk_New _).mono ?_
  rintro e w1 ⟨rfl, s1, b1⟩
  go_wp2_with fail
  refine (sk_New _).mono ?_
  rintro e w2 ⟨rfl, t2, b2⟩
  go_wp2_with fail
  refine (r6_New _).mono ?_
  rintro e w3 ⟨rfl, r3, b3⟩
  go_wp2_with fail
  refine (r6_New _).mono ?_
  rintro e w4 ⟨rfl, q4, b4⟩
  have z1 := b1.size; have z2 := b2.size; have z3 := b3.size; have z4 := b4.size
  have l1 := s1.blk.lt; have l2 := t2.blk.lt; have l3 := r3.blk.lt; have l4 := q4.blk.lt
  have hb : Below w'.heap.size w' w4 := ((b1.trans (b2.mono z1)).trans (b3.mono (by omega))).trans (b4.mono (by omega))
  have hsc : Scene w' w4 w'.heap.size w2.heap.size w1.heap.size w3.heap.size 0 := by
    refine ⟨⟨.slice none 0 0, .slice none 0 0, .slice none 0 0, .slice none 0 0, ⟨[], false, 0, 0, 0, 0, ?_⟩, ⟨[], false, 0, 0, 0, 0, ?_⟩, ?_⟩, hb, by omega, by omega, by omega, by omega⟩
    · exact ⟨((s1.below b2).below b3).below b4, r3.below b4, (fun h => by cases h), (by simp), by omega, by omega, by omega, fun k h1 h2 => by rcases h1 with h1 | h1 <;> rcases h2 with h2 | h2 <;> first | (cases h1; done) | (cases h2; done) | omega⟩
    · exact ⟨(t2.below b3).below b4, q4, (fun h => by cases h), (by simp), by omega, by omega, by omega, fun k h1 h2 => by rcases h1 with h1 | h1 <;> rcases h2 with h2 | h2 <;> first | (cases h1; done) | (cases h2; done) | omega⟩
    · intro k h1 h2
      rcases h1 with (h1 | h1) | (h1 | h1) <;> rcases h2 with (h2 | h2) | (h2 | h2) <;> first | (cases h1; done) | (cases h2; done) | omega
  obtain ⟨S1, hS1⟩ : ∃ n, w'.heap.size = n := ⟨_, rfl⟩
  obtain ⟨R1, hR1⟩ : ∃ n, w2.heap.size = n := ⟨_, rfl⟩
  obtain ⟨S2, hS2⟩ : ∃ n, w1.heap.size = n := ⟨_, rfl⟩
  obtain ⟨R2, hR2⟩ : ∃ n, w3.heap.size = n := ⟨_, rfl⟩
  rw [hS1, hR1, hS2, hR2] at hsc
  replace hsc := Lib.hid hsc
  clear b1 b2 b3 b4 s1 t2 r3 q4 hb
  go_wp2_with fail
  refine (one_left w' w4 S1 R1 S2 R2 0 hsc.out hT.out 0 false ⟨#[]⟩ 0 (by decide)).mono ?_
  rintro e w5 ⟨rfl, h5⟩
  replace h5 := Lib.hid (h5.mono (by decide : 0 + ByteArray.size ⟨#[]⟩ + clampN 0 + 1 ≤ 1))
  go_wp2_with fail
  refine (one_right w' w5 S1 R1 S2 R2 1 h5.out hT.out 0 false ⟨#[]⟩ 0 (by decide)).mono ?_
  rintro e w6 ⟨rfl, h6⟩
  replace h6 := Lib.hid (h6.mono (by decide : 1 + ByteArray.size ⟨#[]⟩ + clampN 0 + 1 ≤ 2))
  clear hsc h5
  go_wp2_with fail
  go_loopw [7] (fun iv W => ∃ (i : Nat), iv = .int .i64 i ∧ i ≤ S.length ∧ Scene w' W S1 R1 S2 R2 (2 + i + vs (S.take i))) (fun iv _ => S.length - (RowKit.intOf iv).toNat)
  case atStart => exact ⟨0, rfl, by omega, h6.out⟩
  case round =>
    obtain ⟨i, rfl, hi, hM⟩ := hrel
    replace hM := Lib.hid hM
    clear h6
    by_cases hlt : i < S.length
    · obtain ⟨a, ha⟩ : ∃ a, S[i]? = some a := ⟨_, List.getElem?_eq_getElem hlt⟩
      obtain ⟨b, o, rfl, c0, c1, c2, c3⟩ := (hA.out.below hM.out.hb) i a ha
      have hi1 : (i : Int) < S.length := by omega
      have hi2 : (0 : Int) ≤ i := by omega
      have wi : IntKind.i64.wrap ((i : Int) + 1) = i + 1 := IntWalk.i64_in _ (by omega)
      have hvs := vs_take S i a ha
      have hle := vs_le S i
      have hle2 := vs_le S (i + 1)
      have hmeas : S.length - (RowKit.intOf (.int .i64 ((i : Int) + 1))).toNat < S.length - (RowKit.intOf (.int .i64 (i : Int))).toNat := by simp [RowKit.intOf]; omega
      replace ha := Lib.hid ha; 
      obtain ⟨ao', hao⟩ : ∃ z, a.o = z := ⟨_, rfl⟩
      rw [hao] at c1
      cases ao'
      · go_wp2_with fail
        refine (one_left w' _ S1 R1 S2 R2 _ hM.out hT.out a.k false a.t a.n (by omega)).mono ?_
        rintro e w7 ⟨rfl, h7⟩
        replace h7 := Lib.hid (h7.mono (U' := 2 + (i + 1) + vs (S.take (i + 1))) (by omega))
        go_wp2_with fail
        exact ⟨⟨i + 1, by go_num, by omega, h7.out⟩, hmeas⟩
      · go_wp2_with fail
        refine (one_right w' _ S1 R1 S2 R2 _ hM.out hT.out a.k true a.t a.n (by omega)).mono ?_
        rintro e w7 ⟨rfl, h7⟩
        replace h7 := Lib.hid (h7.mono (U' := 2 + (i + 1) + vs (S.take (i + 1))) (by omega))
        go_wp2_with fail
        exact ⟨⟨i + 1, by go_num, by omega, h7.out⟩, hmeas⟩
    · have hi1 : ¬ (i : Int) < S.length := by omega
      have he : i = S.length := by omega
      subst he
      rw [List.take_length] at hM
      go_wp2_with fail
      refine (one_left w' _ S1 R1 S2 R2 _ hM.out hT.out 5 false ⟨#[]⟩ 0 (by show _ + 0 ≤ _; omega)).mono ?_
      rintro e w7 ⟨rfl, h7⟩
      replace h7 := Lib.hid (h7.mono (U' := 3 + S.length + vs S) (by show _ + 0 + 0 + 1 ≤ _; omega))
      go_wp2_with fail
      refine (one_right w' w7 S1 R1 S2 R2 _ h7.out hT.out 5 false ⟨#[]⟩ 0 (by show _ + 0 ≤ _; omega)).mono ?_
      rintro e w8 ⟨rfl, h8⟩
      replace h8 := Lib.hid h8
      have hz8 := h8.out.hb.size
      go_wp2_with fail
      refine (awake_true w8 (hT.out.below h8.out.hb) (by omega) (by omega)).mono ?_
      rintro e w9 ⟨rfl, b9⟩
      have hb9 := h8.out.hb.trans (b9.mono hz8)
      go_wp2_with fail
      go_ret
      exact ⟨rfl, hb9⟩
end Go.Proofs.YtphcmbdmkhmfbaaDoor
