/- A call on both sinks (law 06's 'one'): both answer alike, and stay alike. -/
import Derived.Test.YtphcmbdmkhmfbaaDoorAwake
import Derived.Test.YtphcmbdmkhmfbaaDoorRef06T
import Derived.Deep.RegionHeld3
namespace Go.Proofs.YtphcmbdmkhmfbaaDoor
open Go.RowKit Go.Lib

/-- The program's sink at s and the reference's at r stand alike. U: how much was handed in. -/
structure Duo (w : World) (s r : Nat) (vs vr : Value) (l : List UInt8) (f : Bool) (x y7 y6 z U : Nat) : Prop where
  sk : S7 w s vs l f x y7 z
  rf : S6 w r vr l (!f) x y6 z
  eqy : f = true → y7 = y6
  room : l.length + z + (if f then 0 else x) ≤ U
  col7 : y7 + z ≤ 2 * U + 1048576
  col6 : y6 + z ≤ 2 * U + 1048576
  ind : x ≤ 1048576
  dis : Dis s vs r vr
/-- A call left the two sinks' other memory alone. -/
structure Two (w : World) (s r : Nat) (vs vr : Value) (w' : World) (vs' vr' : Value) : Prop where
  n7 : Next w vs vs'
  n6 : Next w vr vr'
  kept : Kept (fun k => Own s vs k ∨ Own r vr k) w w'
theorem Two.refl (w : World) (s r : Nat) (vs vr : Value) : Two w s r vs vr w vs vr := ⟨Next.refl _ _, Next.refl _ _, Kept.refl _ _⟩
theorem Two.trans {w w2 w3 : World} {s r : Nat} {vs vr vs2 vr2 vs3 vr3 : Value} (h : Two w s r vs vr w2 vs2 vr2) (k : Two w2 s r vs2 vr2 w3 vs3 vr3) : Two w s r vs vr w3 vs3 vr3 :=
  ⟨h.n7.trans h.kept.size k.n7, h.n6.trans h.kept.size k.n6, h.kept.trans k.kept (fun i hi e => by
    rcases e with (e | e) | (e | e)
    · exact .inl (.inl e)
    · rcases h.n7 i e with e | e
      · exact .inl (.inr e)
      · omega
    · exact .inr (.inl e)
    · rcases h.n6 i e with e | e
      · exact .inr (.inr e)
      · omega)⟩
theorem Two.below {w w' : World} {s r : Nat} {vs vr : Value} (h : Below w.heap.size w w') : Two w s r vs vr w' vs vr := ⟨Next.refl _ _, Next.refl _ _, Kept.of_below h⟩
theorem Two.drew {w w' : World} {s r : Nat} {vs vr vs' vr' : Value} (h : Two w s r vs vr w' vs' vr') : Two w s r vs vr w'.drew vs' vr' := ⟨h.n7, h.n6, h.kept.drew⟩
theorem Duo.below {w w' : World} {s r : Nat} {vs vr : Value} {l : List UInt8} {f : Bool} {x y7 y6 z U : Nat} (h : Duo w s r vs vr l f x y7 y6 z U) (k : Below w.heap.size w w') : Duo w' s r vs vr l f x y7 y6 z U :=
  ⟨h.sk.below k, h.rf.below k, h.eqy, h.room, h.col7, h.col6, h.ind, h.dis⟩
theorem Duo.drew {w : World} {s r : Nat} {vs vr : Value} {l : List UInt8} {f : Bool} {x y7 y6 z U : Nat} (h : Duo w s r vs vr l f x y7 y6 z U) : Duo w.drew s r vs vr l f x y7 y6 z U :=
  ⟨h.sk.drew, h.rf.drew, h.eqy, h.room, h.col7, h.col6, h.ind, h.dis⟩
theorem Duo.mono {w : World} {s r : Nat} {vs vr : Value} {l : List UInt8} {f : Bool} {x y7 y6 z U U' : Nat} (h : Duo w s r vs vr l f x y7 y6 z U) (hU : U ≤ U') : Duo w s r vs vr l f x y7 y6 z U' :=
  ⟨h.sk, h.rf, h.eqy, by have := h.room; omega, by have := h.col7; omega, by have := h.col6; omega, h.ind, h.dis⟩
/-- Both calls made: what stands behind them. -/
theorem Duo.step {w w2 w3 : World} {s r : Nat} {vs vr vs2 vr3 : Value} {l l' : List UInt8} {f f' : Bool} {x y7 y6 z U x' y7' y6' z' U' : Nat} (D : Duo w s r vs vr l f x y7 y6 z U)
    (k1 : Kept (Own s vs) w w2) (s2 : S7 w2 s vs2 l' f' x' y7' z') (n1 : Next w vs vs2) (k2 : Kept (Own r vr) w2 w3) (r3 : S6 w3 r vr3 l' (!f') x' y6' z') (n2 : Next w2 vr vr3)
    (e : f' = true → y7' = y6') (ro : l'.length + z' + (if f' then 0 else x') ≤ U') (c7 : y7' + z' ≤ 2 * U' + 1048576) (c6 : y6' + z' ≤ 2 * U' + 1048576) (i : x' ≤ 1048576) :
    Duo w3 s r vs2 vr3 l' f' x' y7' y6' z' U' ∧ Two w s r vs vr w3 vs2 vr3 := by
  have d2 : Dis s vs2 r vr := D.dis.next D.rf n1
  have r2 := D.rf.kept k1 D.dis.symm
  have s3 := s2.kept k2 d2
  have d3 : Dis s vs2 r vr3 := (d2.symm.next s2 n2).symm
  exact ⟨⟨s3, r3, e, ro, c7, c6, i, d3⟩, ⟨n1, (Next.refl w vr).trans k1.size n2, (k1.mono (fun _ _ e => .inl e)).trans k2 (fun _ _ e => .inr e)⟩⟩
theorem Duo.read7 {w w2 : World} {s r : Nat} {vs vr : Value} {l : List UInt8} {f : Bool} {x y7 y6 z U : Nat} (D : Duo w s r vs vr l f x y7 y6 z U) (k : Kept (Own s vs) w w2) (s2 : S7 w2 s vs l f x y7 z) : Duo w2 s r vs vr l f x y7 y6 z U :=
  ⟨s2, D.rf.kept k D.dis.symm, D.eqy, D.room, D.col7, D.col6, D.ind, D.dis⟩
theorem Duo.read6 {w w2 : World} {s r : Nat} {vs vr : Value} {l : List UInt8} {f : Bool} {x y7 y6 z U : Nat} (D : Duo w s r vs vr l f x y7 y6 z U) (k : Kept (Own r vr) w w2) (s2 : S6 w2 r vr l (!f) x y6 z) : Duo w2 s r vs vr l f x y7 y6 z U :=
  ⟨D.sk.kept k D.dis, s2, D.eqy, D.room, D.col7, D.col6, D.ind, D.dis⟩
theorem Two.read7 {w w2 : World} {s r : Nat} {vs vr : Value} (k : Kept (Own s vs) w w2) : Two w s r vs vr w2 vs vr := ⟨Next.refl _ _, Next.refl _ _, k.mono (fun _ _ e => .inl e)⟩
theorem Two.read6 {w w2 : World} {s r : Nat} {vs vr : Value} (k : Kept (Own r vr) w w2) : Two w s r vs vr w2 vs vr := ⟨Next.refl _ _, Next.refl _ _, k.mono (fun _ _ e => .inr e)⟩
def clampN (n : Int) : Nat := if 0 < n ∧ n ≤ 1048576 then n.toNat else 0
theorem clampN_of {n : Int} (h : 0 ≤ n ∧ n ≤ 1048576) : clampN n = n.toNat := by unfold clampN; split <;> omega
theorem colAfter_le (t : ByteArray) (c : Int) (hc : 0 ≤ c) : 0 ≤ colAfter t c ∧ colAfter t c ≤ c + 2 * t.size := by
  have h1 := wid_le (t.data.toList.drop (fromAt t t.size))
  have h2 : (t.data.toList.drop (fromAt t t.size)).length ≤ t.size := by rw [List.length_drop, size_len]; omega
  unfold colAfter; split <;> omega
set_option maxHeartbeats 4000000 in
theorem sk_Text0 (s : Nat) (w : World) : Calls Tryd.prog 12 #[.pointer (some ⟨s, 0, none⟩), .string ⟨#[]⟩] w fun e w' => e = .returned (.int .i64 0) ∧ Below w.heap.size w w' := by
  have hmf : ∀ (fn : Fn) (first cap : Array Value) (w : World), (Instr.makeFunc fn first cap).run Tryd.prog w = .ok (.func fn first cap) w := fun _ _ _ _ => rfl
  go_enter Tryd.func12, Tryd.ntmps12
  go_wp2
  go_ret
  exact ⟨rfl, ((Below.refl _ _).alloc (Nat.le_refl _) _).alloc (by simp) _⟩
set_option maxHeartbeats 4000000 in
theorem r6_Text0 (b : Nat) (w : World) : Calls Tryd.prog 43 #[.pointer (some ⟨b, 0, none⟩), .string ⟨#[]⟩] w fun e w' => e = .returned (.int .i64 0) ∧ Below w.heap.size w w' := by
  go_enter Tryd.func43, Tryd.ntmps43
  go_wp2
  go_ret
  exact ⟨rfl, Below.refl _ _⟩
set_option maxHeartbeats 4000000 in
set_option maxRecDepth 100000 in
theorem law_one (s r : Nat) (vs vr : Value) (l : List UInt8) (f : Bool) (x y7 y6 z U : Nat) (k : Int) (ot : Bool) (t : ByteArray) (n : Int) (w : World) (D : Duo w s r vs vr l f x y7 y6 z U) (hU : U + t.size ≤ 17179869184) (hT : Tabs w) (hg1 : 0 < s) (hg2 : 1 < s) :
    Calls Tryd.prog 24 #[.pointer (some ⟨s, 0, none⟩), .pointer (some ⟨r, 0, none⟩), .agg #[.int .i64 k, .bool ot, .string t, .int .i64 n]] w fun e w' => e = .returned (.bool true) ∧ ∃ vs' vr' l' f' x' y7' y6' z', Duo w' s r vs' vr' l' f' x' y7' y6' z' (U + t.size + clampN n + 1) ∧ Two w s r vs vr w' vs' vr' := by
  have hb1 : Below w.heap.size w (w.alloc (.cells #[.int .i64 k, .bool ot, .string t, .int .i64 n] 37)) := (Below.refl _ _).alloc (Nat.le_refl _) _
  have D1 := D.below hb1
  have T1 : Two w s r vs vr _ vs vr := Two.below hb1
  have hT1 := hT.below hb1
  have hroom := D.room; have hcol7 := D.col7; have hcol6 := D.col6; have hind := D.ind
  have hfx : (if f then 0 else x) ≤ x := by split <;> omega
  have ho := (Blk.new w #[.int .i64 k, .bool ot, .string t, .int .i64 n] 37)
  obtain ⟨W1, hW1⟩ : ∃ W1, w.alloc (.cells #[.int .i64 k, .bool ot, .string t, .int .i64 n] 37) = W1 := ⟨_, rfl⟩
  rw [hW1] at D1 T1 hT1 ho
  have ho0 := ho.cell 0; have ho2 := ho.cell 2; have ho3 := ho.cell 3
  simp at ho0 ho2 ho3
  have hne1 : ¬ Own s vs w.heap.size := fun e => by have := D.sk.lt _ e; omega
  have hne2 : ¬ Own r vr w.heap.size := fun e => by have := D.rf.lt _ e; omega
  replace D1 := Lib.hid D1; replace T1 := Lib.hid T1; replace hT1 := Lib.hid hT1; replace hT := Lib.hid hT; replace D := Lib.hid D
  by_cases k1 : k = 1
  · subst k1
    by_cases ht : t.size = 0
    · have ht0 : t = ⟨#[]⟩ := by cases t with | mk d => simp [ByteArray.size] at ht; subst ht; rfl
      subst ht0
      have c7 := Lib.hid (sk_Text0 s W1.drew)
      go_enter Tryd.func24, Tryd.ntmps24
      go_wp2_with fail
      go_region_held3 (fun w' => w'.cell? ⟨w.heap.size, 2, none⟩ = some (.string ⟨#[]⟩)) (first | exact hk7 | exact hk6 | go_keep) ((first
        | (go_at_call 12; refine c7.out.mono ?_; rintro e w2 ⟨rfl, b2⟩; have hk7 := cell_kept (w := W1) ho2 (Kept.of_below (own := fun _ => False) ⟨b2.os, b2.tape, b2.output, b2.size, b2.block⟩) id; replace b2 := Lib.hid b2)
        | (go_at_call 43; refine (r6_Text0 r w2).mono ?_; rintro e w3 ⟨rfl, b3⟩; have hk6 := cell_kept hk7 (Kept.of_below (own := fun _ => False) b3) id; replace b3 := Lib.hid b3)))
      obtain ⟨vs3, hvs3⟩ : ∃ v, vs = v := ⟨_, rfl⟩
      obtain ⟨vr3, hvr3⟩ : ∃ v, vr = v := ⟨_, rfl⟩
      have DT : ∃ l3 f3 x3 y73 y63 z3, Duo w3 s r vs3 vr3 l3 f3 x3 y73 y63 z3 (U + ByteArray.size ⟨#[]⟩ + clampN n + 1) ∧ Two w s r vs vr w3 vs3 vr3 := by
        rw [← hvs3, ← hvr3]
        exact ⟨_, _, _, _, _, _, ((D1.out.drew.below b2.out).below b3.out).mono (by omega), (T1.out.drew.trans (Two.below b2.out)).trans (Two.below b3.out)⟩
      clear hvs3 hvr3
      obtain ⟨l3, f3, x3, y73, y63, z3, D3, T3⟩ := DT
      have hr3 := D3.room; have h73 := D3.col7; have h63 := D3.col6; have hi3 := D3.ind
      have hcl : clampN n ≤ 1048576 := by unfold clampN; split <;> omega
      obtain ⟨C, hC⟩ : ∃ C : Int, (if f3 then (y73 : Int) else x3) + z3 = C := ⟨_, rfl⟩
      have hC6 : (if (!f3) then (x3 : Int) else y63) + z3 = C := by
        rw [← hC]
        cases hf : f3
        · rfl
        · have := D3.eqy hf; simp; omega
      have c7 := sk_Column s vs3 l3 f3 x3 y73 z3 w3 D3.sk (by omega) (by omega) (by omega)
      rw [hC] at c7
      replace c7 := Lib.hid c7; replace hC := Lib.hid hC; replace hC6 := Lib.hid hC6; replace D3 := Lib.hid D3; replace T3 := Lib.hid T3
      go_wp2_with fail
      refine c7.out.mono ?_
      rintro e w4 ⟨rfl, k4, s4⟩
      have D4 := Lib.hid (D3.out.read7 k4 s4)
      have T4 := Lib.hid (T3.out.trans (Two.read7 k4))
      clear D3 T3 c7
      have c6 := r6_Column r vr3 l3 (!f3) x3 y63 z3 w4 D4.out.rf (by omega) (by omega) (by omega)
      rw [hC6.out] at c6
      replace c6 := Lib.hid c6
      go_wp2_with fail
      refine c6.out.mono ?_
      rintro e w5 ⟨rfl, k5, s5⟩
      have D5 := Lib.hid (D4.out.read6 k5 s5)
      have T5 := Lib.hid (T4.out.trans (Two.read6 k5))
      clear D4 T4 c6
      go_wp2_with fail
      refine (sk_Fresh s vs3 l3 f3 x3 y73 z3 w5 D5.out.sk).mono ?_
      rintro e w6 ⟨rfl, k6, s6⟩
      have D6 := Lib.hid (D5.out.read7 k6 s6)
      have T6 := Lib.hid (T5.out.trans (Two.read7 k6))
      clear D5 T5
      go_wp2_with fail
      refine (r6_Fresh r vr3 l3 (!f3) x3 y63 z3 w6 D6.out.rf).mono ?_
      rintro e w7 ⟨rfl, k7, s7⟩
      have D7 := Lib.hid (D6.out.read6 k7 s7)
      have T7 := Lib.hid (T6.out.trans (Two.read6 k7))
      clear D6 T6
      go_wp2_with fail
      go_ret
      exact ⟨rfl, _, _, _, _, _, _, _, _, D7.out, T7.out⟩
    · obtain ⟨Y, hY⟩ : ∃ Y : Nat, colAfter t ((if f then (y7 : Int) else x) + z) = Y := ⟨(colAfter t ((if f then (y7 : Int) else x) + z)).toNat, by have := (colAfter_le t ((if f then (y7 : Int) else x) + z) (by split <;> omega)).1; omega⟩
      have hYb : Y ≤ (if f then y7 else x) + z + 2 * t.size := by have := (colAfter_le t ((if f then (y7 : Int) else x) + z) (by split <;> omega)).2; rw [hY] at this; split <;> simp_all <;> omega
      have hY6 : colAfter t ((if (!f) then (x : Int) else y6) + z) = Y := by
        rw [← hY]; cases hf : f
        · rfl
        · have := D.out.eqy hf; simp [this]
      obtain ⟨L, hL⟩ : ∃ L, l ++ padOf (!f) x ++ List.replicate z 32 ++ t.data.toList = L := ⟨_, rfl⟩
      have hLl : L.length ≤ U + t.size := by
        rw [← hL]
        have h2 : t.data.toList.length = t.size := Array.length_toList
        simp only [List.length_append, List.length_replicate, h2, padOf]
        cases f <;> simp at hroom ⊢ <;> omega
      have hYc : Y ≤ 2 * (U + t.size) + 1048576 := by cases f <;> simp at hroom hYb <;> omega
      have c7 := sk_Text s vs l f x y7 z t W1.drew D1.out.drew.sk ht (by omega) (by omega) hT1.out hg1 hg2
      rw [hY, hL] at c7
      replace c7 := Lib.hid c7; replace hY := Lib.hid hY; replace hL := Lib.hid hL; replace hY6 := Lib.hid hY6
      go_enter Tryd.func24, Tryd.ntmps24
      go_wp2_with fail
      go_region_held3 (fun w' => w'.cell? ⟨w.heap.size, 2, none⟩ = some (.string t)) (first | exact hk7 | exact hk6 | go_keep) ((first
        | (go_at_call 12; refine c7.out.mono ?_; rintro e w2 ⟨rfl, ⟨vs3, s3, n3⟩, k3⟩; have hk7 := cell_kept (w := W1) ho2 ⟨k3.os, k3.tape, k3.output, k3.size, k3.block⟩ hne1; replace s3 := Lib.hid s3; replace n3 := Lib.hid n3; replace k3 := Lib.hid k3)
        | (go_at_call 43; have r2 := D1.out.drew.rf.kept k3.out D1.out.drew.dis.symm; refine (r6_Text r vr l (!f) x y6 z t w2 r2 ht (by omega) (by omega)).mono ?_; rintro e w3 ⟨rfl, ⟨vr3, r3, m3⟩, j3⟩; have hk6 := cell_kept hk7 j3 hne2; replace r3 := Lib.hid r3; replace m3 := Lib.hid m3; replace j3 := Lib.hid j3)))
      rw [hL.out, hY6.out] at r3
      have DT : ∃ l3 f3 x3 y73 y63 z3, Duo w3 s r vs3 vr3 l3 f3 x3 y73 y63 z3 (U + t.size + clampN n + 1) ∧ Two w s r vs vr w3 vs3 vr3 := by
        have hcl : clampN n ≤ 1048576 := by unfold clampN; split <;> omega
        have st := D1.out.drew.step (l' := L) (f' := true) (x' := x) (y7' := Y) (y6' := Y) (z' := 0) (U' := U + t.size + clampN n + 1) k3.out s3.out n3.out j3.out r3.out m3.out (fun _ => rfl) (by simp; omega) (by omega) (by omega) hind
        exact ⟨_, _, _, _, _, _, st.1, T1.out.drew.trans st.2⟩
      obtain ⟨l3, f3, x3, y73, y63, z3, D3, T3⟩ := DT
      have hr3 := D3.room; have h73 := D3.col7; have h63 := D3.col6; have hi3 := D3.ind
      have hcl : clampN n ≤ 1048576 := by unfold clampN; split <;> omega
      obtain ⟨C, hC⟩ : ∃ C : Int, (if f3 then (y73 : Int) else x3) + z3 = C := ⟨_, rfl⟩
      have hC6 : (if (!f3) then (x3 : Int) else y63) + z3 = C := by
        rw [← hC]
        cases hf : f3
        · rfl
        · have := D3.eqy hf; simp; omega
      have c7 := sk_Column s vs3 l3 f3 x3 y73 z3 w3 D3.sk (by omega) (by omega) (by omega)
      rw [hC] at c7
      replace c7 := Lib.hid c7; replace hC := Lib.hid hC; replace hC6 := Lib.hid hC6; replace D3 := Lib.hid D3; replace T3 := Lib.hid T3
      go_wp2_with fail
      refine c7.out.mono ?_
      rintro e w4 ⟨rfl, k4, s4⟩
      have D4 := Lib.hid (D3.out.read7 k4 s4)
      have T4 := Lib.hid (T3.out.trans (Two.read7 k4))
      clear D3 T3 c7
      have c6 := r6_Column r vr3 l3 (!f3) x3 y63 z3 w4 D4.out.rf (by omega) (by omega) (by omega)
      rw [hC6.out] at c6
      replace c6 := Lib.hid c6
      go_wp2_with fail
      refine c6.out.mono ?_
      rintro e w5 ⟨rfl, k5, s5⟩
      have D5 := Lib.hid (D4.out.read6 k5 s5)
      have T5 := Lib.hid (T4.out.trans (Two.read6 k5))
      clear D4 T4 c6
      go_wp2_with fail
      refine (sk_Fresh s vs3 l3 f3 x3 y73 z3 w5 D5.out.sk).mono ?_
      rintro e w6 ⟨rfl, k6, s6⟩
      have D6 := Lib.hid (D5.out.read7 k6 s6)
      have T6 := Lib.hid (T5.out.trans (Two.read7 k6))
      clear D5 T5
      go_wp2_with fail
      refine (r6_Fresh r vr3 l3 (!f3) x3 y63 z3 w6 D6.out.rf).mono ?_
      rintro e w7 ⟨rfl, k7, s7⟩
      have D7 := Lib.hid (D6.out.read6 k7 s7)
      have T7 := Lib.hid (T6.out.trans (Two.read6 k7))
      clear D6 T6
      go_wp2_with fail
      go_ret
      exact ⟨rfl, _, _, _, _, _, _, _, _, D7.out, T7.out⟩
  by_cases k2 : k = 2
  · subst k2
    by_cases hn : 0 ≤ n ∧ n ≤ 1048576
    · obtain ⟨Z, hZ⟩ : ∃ Z : Nat, (z : Int) + n = Z := ⟨((z : Int) + n).toNat, by omega⟩
      have hZn : Z = z + clampN n := by rw [clampN_of hn]; omega
      replace hZ := Lib.hid hZ
      have c7 : Calls Tryd.prog 13 #[.pointer (some ⟨s, 0, none⟩), .int .i64 n] W1.drew fun e w' => e = .returned (.int .i64 0) ∧ ∃ v', S7 w' s v' l f x y7 Z ∧ Next W1.drew vs v' ∧ Kept (Own s vs) W1.drew w' := ((sk_Blanks s vs l f x y7 z n W1.drew D1.out.drew.sk (by omega)).mono fun e w' ⟨h1, _, h3⟩ => ⟨(h1 hn).1, vs, by rw [← hZ.out]; exact (h1 hn).2, Next.refl _ _, h3⟩)
      have c6 : ∀ w2, S6 w2 r vr l (!f) x y6 z → Calls Tryd.prog 44 #[.pointer (some ⟨r, 0, none⟩), .int .i64 n] w2 fun e w' => e = .returned (.int .i64 0) ∧ ∃ v', S6 w' r v' l (!f) x y6 Z ∧ Next w2 vr v' ∧ Kept (Own r vr) w2 w' := fun w2 h => ((r6_Blanks r vr l (!f) x y6 z n w2 h (by omega)).mono fun e w' ⟨h1, _, h3⟩ => ⟨(h1 hn).1, vr, by rw [← hZ.out]; exact (h1 hn).2, Next.refl _ _, h3⟩)
      replace c7 := Lib.hid c7; replace c6 := Lib.hid c6
      go_enter Tryd.func24, Tryd.ntmps24
      go_wp2_with fail
      go_region_held3 (fun w' => w'.cell? ⟨w.heap.size, 3, none⟩ = some (.int .i64 n)) (first | exact hk7 | exact hk6 | go_keep) ((first
        | (go_at_call 13; refine c7.out.mono ?_; rintro e w2 ⟨rfl, vs3, s3, n3, k3⟩; have hk7 := cell_kept (w := W1) ho3 ⟨k3.os, k3.tape, k3.output, k3.size, k3.block⟩ hne1; replace s3 := Lib.hid s3; replace n3 := Lib.hid n3; replace k3 := Lib.hid k3)
        | (go_at_call 44; have r2 := D1.out.drew.rf.kept k3.out D1.out.drew.dis.symm; refine (c6.out w2 r2).mono ?_; rintro e w3 ⟨rfl, vr3, r3, m3, j3⟩; have hk6 := cell_kept hk7 j3 hne2; replace r3 := Lib.hid r3; replace m3 := Lib.hid m3; replace j3 := Lib.hid j3)))
      have DT : ∃ l3 f3 x3 y73 y63 z3, Duo w3 s r vs3 vr3 l3 f3 x3 y73 y63 z3 (U + t.size + clampN n + 1) ∧ Two w s r vs vr w3 vs3 vr3 := by
        have hcl : clampN n ≤ 1048576 := by unfold clampN; split <;> omega
        have st := D1.out.drew.step (l' := l) (f' := f) (x' := x) (y7' := y7) (y6' := y6) (z' := Z) (U' := U + t.size + clampN n + 1) k3.out s3.out n3.out j3.out r3.out m3.out D1.out.eqy (by omega) (by omega) (by omega) hind
        exact ⟨_, _, _, _, _, _, st.1, T1.out.drew.trans st.2⟩
      obtain ⟨l3, f3, x3, y73, y63, z3, D3, T3⟩ := DT
      have hr3 := D3.room; have h73 := D3.col7; have h63 := D3.col6; have hi3 := D3.ind
      have hcl : clampN n ≤ 1048576 := by unfold clampN; split <;> omega
      obtain ⟨C, hC⟩ : ∃ C : Int, (if f3 then (y73 : Int) else x3) + z3 = C := ⟨_, rfl⟩
      have hC6 : (if (!f3) then (x3 : Int) else y63) + z3 = C := by
        rw [← hC]
        cases hf : f3
        · rfl
        · have := D3.eqy hf; simp; omega
      have c7 := sk_Column s vs3 l3 f3 x3 y73 z3 w3 D3.sk (by omega) (by omega) (by omega)
      rw [hC] at c7
      replace c7 := Lib.hid c7; replace hC := Lib.hid hC; replace hC6 := Lib.hid hC6; replace D3 := Lib.hid D3; replace T3 := Lib.hid T3
      go_wp2_with fail
      refine c7.out.mono ?_
      rintro e w4 ⟨rfl, k4, s4⟩
      have D4 := Lib.hid (D3.out.read7 k4 s4)
      have T4 := Lib.hid (T3.out.trans (Two.read7 k4))
      clear D3 T3 c7
      have c6 := r6_Column r vr3 l3 (!f3) x3 y63 z3 w4 D4.out.rf (by omega) (by omega) (by omega)
      rw [hC6.out] at c6
      replace c6 := Lib.hid c6
      go_wp2_with fail
      refine c6.out.mono ?_
      rintro e w5 ⟨rfl, k5, s5⟩
      have D5 := Lib.hid (D4.out.read6 k5 s5)
      have T5 := Lib.hid (T4.out.trans (Two.read6 k5))
      clear D4 T4 c6
      go_wp2_with fail
      refine (sk_Fresh s vs3 l3 f3 x3 y73 z3 w5 D5.out.sk).mono ?_
      rintro e w6 ⟨rfl, k6, s6⟩
      have D6 := Lib.hid (D5.out.read7 k6 s6)
      have T6 := Lib.hid (T5.out.trans (Two.read7 k6))
      clear D5 T5
      go_wp2_with fail
      refine (r6_Fresh r vr3 l3 (!f3) x3 y63 z3 w6 D6.out.rf).mono ?_
      rintro e w7 ⟨rfl, k7, s7⟩
      have D7 := Lib.hid (D6.out.read6 k7 s7)
      have T7 := Lib.hid (T6.out.trans (Two.read6 k7))
      clear D6 T6
      go_wp2_with fail
      go_ret
      exact ⟨rfl, _, _, _, _, _, _, _, _, D7.out, T7.out⟩
    · have c7 : Calls Tryd.prog 13 #[.pointer (some ⟨s, 0, none⟩), .int .i64 n] W1.drew fun e w' => e = .returned (.int .i64 1) ∧ ∃ v', S7 w' s v' l f x y7 z ∧ Next W1.drew vs v' ∧ Kept (Own s vs) W1.drew w' := ((sk_Blanks s vs l f x y7 z n W1.drew D1.out.drew.sk (by omega)).mono fun e w' ⟨_, h2, h3⟩ => ⟨(h2 hn).1, vs, (h2 hn).2, Next.refl _ _, h3⟩)
      have c6 : ∀ w2, S6 w2 r vr l (!f) x y6 z → Calls Tryd.prog 44 #[.pointer (some ⟨r, 0, none⟩), .int .i64 n] w2 fun e w' => e = .returned (.int .i64 1) ∧ ∃ v', S6 w' r v' l (!f) x y6 z ∧ Next w2 vr v' ∧ Kept (Own r vr) w2 w' := fun w2 h => ((r6_Blanks r vr l (!f) x y6 z n w2 h (by omega)).mono fun e w' ⟨_, h2, h3⟩ => ⟨(h2 hn).1, vr, (h2 hn).2, Next.refl _ _, h3⟩)
      replace c7 := Lib.hid c7; replace c6 := Lib.hid c6
      go_enter Tryd.func24, Tryd.ntmps24
      go_wp2_with fail
      go_region_held3 (fun w' => w'.cell? ⟨w.heap.size, 3, none⟩ = some (.int .i64 n)) (first | exact hk7 | exact hk6 | go_keep) ((first
        | (go_at_call 13; refine c7.out.mono ?_; rintro e w2 ⟨rfl, vs3, s3, n3, k3⟩; have hk7 := cell_kept (w := W1) ho3 ⟨k3.os, k3.tape, k3.output, k3.size, k3.block⟩ hne1; replace s3 := Lib.hid s3; replace n3 := Lib.hid n3; replace k3 := Lib.hid k3)
        | (go_at_call 44; have r2 := D1.out.drew.rf.kept k3.out D1.out.drew.dis.symm; refine (c6.out w2 r2).mono ?_; rintro e w3 ⟨rfl, vr3, r3, m3, j3⟩; have hk6 := cell_kept hk7 j3 hne2; replace r3 := Lib.hid r3; replace m3 := Lib.hid m3; replace j3 := Lib.hid j3)))
      have DT : ∃ l3 f3 x3 y73 y63 z3, Duo w3 s r vs3 vr3 l3 f3 x3 y73 y63 z3 (U + t.size + clampN n + 1) ∧ Two w s r vs vr w3 vs3 vr3 := by
        have hcl : clampN n ≤ 1048576 := by unfold clampN; split <;> omega
        have st := D1.out.drew.step (l' := l) (f' := f) (x' := x) (y7' := y7) (y6' := y6) (z' := z) (U' := U + t.size + clampN n + 1) k3.out s3.out n3.out j3.out r3.out m3.out D1.out.eqy (by omega) (by omega) (by omega) hind
        exact ⟨_, _, _, _, _, _, st.1, T1.out.drew.trans st.2⟩
      obtain ⟨l3, f3, x3, y73, y63, z3, D3, T3⟩ := DT
      have hr3 := D3.room; have h73 := D3.col7; have h63 := D3.col6; have hi3 := D3.ind
      have hcl : clampN n ≤ 1048576 := by unfold clampN; split <;> omega
      obtain ⟨C, hC⟩ : ∃ C : Int, (if f3 then (y73 : Int) else x3) + z3 = C := ⟨_, rfl⟩
      have hC6 : (if (!f3) then (x3 : Int) else y63) + z3 = C := by
        rw [← hC]
        cases hf : f3
        · rfl
        · have := D3.eqy hf; simp; omega
      have c7 := sk_Column s vs3 l3 f3 x3 y73 z3 w3 D3.sk (by omega) (by omega) (by omega)
      rw [hC] at c7
      replace c7 := Lib.hid c7; replace hC := Lib.hid hC; replace hC6 := Lib.hid hC6; replace D3 := Lib.hid D3; replace T3 := Lib.hid T3
      go_wp2_with fail
      refine c7.out.mono ?_
      rintro e w4 ⟨rfl, k4, s4⟩
      have D4 := Lib.hid (D3.out.read7 k4 s4)
      have T4 := Lib.hid (T3.out.trans (Two.read7 k4))
      clear D3 T3 c7
      have c6 := r6_Column r vr3 l3 (!f3) x3 y63 z3 w4 D4.out.rf (by omega) (by omega) (by omega)
      rw [hC6.out] at c6
      replace c6 := Lib.hid c6
      go_wp2_with fail
      refine c6.out.mono ?_
      rintro e w5 ⟨rfl, k5, s5⟩
      have D5 := Lib.hid (D4.out.read6 k5 s5)
      have T5 := Lib.hid (T4.out.trans (Two.read6 k5))
      clear D4 T4 c6
      go_wp2_with fail
      refine (sk_Fresh s vs3 l3 f3 x3 y73 z3 w5 D5.out.sk).mono ?_
      rintro e w6 ⟨rfl, k6, s6⟩
      have D6 := Lib.hid (D5.out.read7 k6 s6)
      have T6 := Lib.hid (T5.out.trans (Two.read7 k6))
      clear D5 T5
      go_wp2_with fail
      refine (r6_Fresh r vr3 l3 (!f3) x3 y63 z3 w6 D6.out.rf).mono ?_
      rintro e w7 ⟨rfl, k7, s7⟩
      have D7 := Lib.hid (D6.out.read6 k7 s7)
      have T7 := Lib.hid (T6.out.trans (Two.read6 k7))
      clear D6 T6
      go_wp2_with fail
      go_ret
      exact ⟨rfl, _, _, _, _, _, _, _, _, D7.out, T7.out⟩
  by_cases k3 : k = 3
  · subst k3
    by_cases hn : 0 ≤ n ∧ n ≤ 1048576
    · obtain ⟨N, rfl⟩ : ∃ N : Nat, n = N := ⟨n.toNat, by omega⟩
      have hNc : clampN N = N := by rw [clampN_of hn]; simp
      have c7 : Calls Tryd.prog 14 #[.pointer (some ⟨s, 0, none⟩), .int .i64 N] W1.drew fun e w' => e = .returned (.int .i64 0) ∧ ∃ v', S7 w' s v' (l ++ [10]) false N 0 0 ∧ Next W1.drew vs v' ∧ Kept (Own s vs) W1.drew w' := ((sk_Feed s vs l f x y7 z N W1.drew D1.out.drew.sk (by omega)).mono fun e w' ⟨h1, _, h3⟩ => by obtain ⟨g1, v', g2, g3⟩ := h1 hn; exact ⟨g1, v', g2, g3, h3⟩)
      have c6 : ∀ w2, S6 w2 r vr l (!f) x y6 z → Calls Tryd.prog 45 #[.pointer (some ⟨r, 0, none⟩), .int .i64 N] w2 fun e w' => e = .returned (.int .i64 0) ∧ ∃ v', S6 w' r v' (l ++ [10]) true N y6 0 ∧ Next w2 vr v' ∧ Kept (Own r vr) w2 w' := fun w2 h => ((r6_Feed r vr l (!f) x y6 z N w2 h (by omega)).mono fun e w' ⟨h1, _, h3⟩ => by obtain ⟨g1, v', g2, g3⟩ := h1 hn; exact ⟨g1, v', g2, g3, h3⟩)
      replace c7 := Lib.hid c7; replace c6 := Lib.hid c6
      go_enter Tryd.func24, Tryd.ntmps24
      go_wp2_with fail
      go_region_held3 (fun w' => w'.cell? ⟨w.heap.size, 3, none⟩ = some (.int .i64 N)) (first | exact hk7 | exact hk6 | go_keep) ((first
        | (go_at_call 14; refine c7.out.mono ?_; rintro e w2 ⟨rfl, vs3, s3, n3, k3⟩; have hk7 := cell_kept (w := W1) ho3 ⟨k3.os, k3.tape, k3.output, k3.size, k3.block⟩ hne1; replace s3 := Lib.hid s3; replace n3 := Lib.hid n3; replace k3 := Lib.hid k3)
        | (go_at_call 45; have r2 := D1.out.drew.rf.kept k3.out D1.out.drew.dis.symm; refine (c6.out w2 r2).mono ?_; rintro e w3 ⟨rfl, vr3, r3, m3, j3⟩; have hk6 := cell_kept hk7 j3 hne2; replace r3 := Lib.hid r3; replace m3 := Lib.hid m3; replace j3 := Lib.hid j3)))
      have DT : ∃ l3 f3 x3 y73 y63 z3, Duo w3 s r vs3 vr3 l3 f3 x3 y73 y63 z3 (U + t.size + clampN N + 1) ∧ Two w s r vs vr w3 vs3 vr3 := by
        have hcl : clampN N ≤ 1048576 := by unfold clampN; split <;> omega
        have st := D1.out.drew.step (l' := l ++ [10]) (f' := false) (x' := N) (y7' := 0) (y6' := y6) (z' := 0) (U' := U + t.size + clampN N + 1) k3.out s3.out n3.out j3.out r3.out m3.out (fun h => by cases h) (by simp; omega) (by omega) (by omega) (by omega)
        exact ⟨_, _, _, _, _, _, st.1, T1.out.drew.trans st.2⟩
      obtain ⟨l3, f3, x3, y73, y63, z3, D3, T3⟩ := DT
      have hr3 := D3.room; have h73 := D3.col7; have h63 := D3.col6; have hi3 := D3.ind
      have hcl : clampN N ≤ 1048576 := by unfold clampN; split <;> omega
      obtain ⟨C, hC⟩ : ∃ C : Int, (if f3 then (y73 : Int) else x3) + z3 = C := ⟨_, rfl⟩
      have hC6 : (if (!f3) then (x3 : Int) else y63) + z3 = C := by
        rw [← hC]
        cases hf : f3
        · rfl
        · have := D3.eqy hf; simp; omega
      have c7 := sk_Column s vs3 l3 f3 x3 y73 z3 w3 D3.sk (by omega) (by omega) (by omega)
      rw [hC] at c7
      replace c7 := Lib.hid c7; replace hC := Lib.hid hC; replace hC6 := Lib.hid hC6; replace D3 := Lib.hid D3; replace T3 := Lib.hid T3
      go_wp2_with fail
      refine c7.out.mono ?_
      rintro e w4 ⟨rfl, k4, s4⟩
      have D4 := Lib.hid (D3.out.read7 k4 s4)
      have T4 := Lib.hid (T3.out.trans (Two.read7 k4))
      clear D3 T3 c7
      have c6 := r6_Column r vr3 l3 (!f3) x3 y63 z3 w4 D4.out.rf (by omega) (by omega) (by omega)
      rw [hC6.out] at c6
      replace c6 := Lib.hid c6
      go_wp2_with fail
      refine c6.out.mono ?_
      rintro e w5 ⟨rfl, k5, s5⟩
      have D5 := Lib.hid (D4.out.read6 k5 s5)
      have T5 := Lib.hid (T4.out.trans (Two.read6 k5))
      clear D4 T4 c6
      go_wp2_with fail
      refine (sk_Fresh s vs3 l3 f3 x3 y73 z3 w5 D5.out.sk).mono ?_
      rintro e w6 ⟨rfl, k6, s6⟩
      have D6 := Lib.hid (D5.out.read7 k6 s6)
      have T6 := Lib.hid (T5.out.trans (Two.read7 k6))
      clear D5 T5
      go_wp2_with fail
      refine (r6_Fresh r vr3 l3 (!f3) x3 y63 z3 w6 D6.out.rf).mono ?_
      rintro e w7 ⟨rfl, k7, s7⟩
      have D7 := Lib.hid (D6.out.read6 k7 s7)
      have T7 := Lib.hid (T6.out.trans (Two.read6 k7))
      clear D6 T6
      go_wp2_with fail
      go_ret
      exact ⟨rfl, _, _, _, _, _, _, _, _, D7.out, T7.out⟩
    · have c7 : Calls Tryd.prog 14 #[.pointer (some ⟨s, 0, none⟩), .int .i64 n] W1.drew fun e w' => e = .returned (.int .i64 1) ∧ ∃ v', S7 w' s v' l f x y7 z ∧ Next W1.drew vs v' ∧ Kept (Own s vs) W1.drew w' := ((sk_Feed s vs l f x y7 z n W1.drew D1.out.drew.sk (by omega)).mono fun e w' ⟨_, h2, h3⟩ => ⟨(h2 hn).1, vs, (h2 hn).2, Next.refl _ _, h3⟩)
      have c6 : ∀ w2, S6 w2 r vr l (!f) x y6 z → Calls Tryd.prog 45 #[.pointer (some ⟨r, 0, none⟩), .int .i64 n] w2 fun e w' => e = .returned (.int .i64 1) ∧ ∃ v', S6 w' r v' l (!f) x y6 z ∧ Next w2 vr v' ∧ Kept (Own r vr) w2 w' := fun w2 h => ((r6_Feed r vr l (!f) x y6 z n w2 h (by omega)).mono fun e w' ⟨_, h2, h3⟩ => ⟨(h2 hn).1, vr, (h2 hn).2, Next.refl _ _, h3⟩)
      replace c7 := Lib.hid c7; replace c6 := Lib.hid c6
      go_enter Tryd.func24, Tryd.ntmps24
      go_wp2_with fail
      go_region_held3 (fun w' => w'.cell? ⟨w.heap.size, 3, none⟩ = some (.int .i64 n)) (first | exact hk7 | exact hk6 | go_keep) ((first
        | (go_at_call 14; refine c7.out.mono ?_; rintro e w2 ⟨rfl, vs3, s3, n3, k3⟩; have hk7 := cell_kept (w := W1) ho3 ⟨k3.os, k3.tape, k3.output, k3.size, k3.block⟩ hne1; replace s3 := Lib.hid s3; replace n3 := Lib.hid n3; replace k3 := Lib.hid k3)
        | (go_at_call 45; have r2 := D1.out.drew.rf.kept k3.out D1.out.drew.dis.symm; refine (c6.out w2 r2).mono ?_; rintro e w3 ⟨rfl, vr3, r3, m3, j3⟩; have hk6 := cell_kept hk7 j3 hne2; replace r3 := Lib.hid r3; replace m3 := Lib.hid m3; replace j3 := Lib.hid j3)))
      have DT : ∃ l3 f3 x3 y73 y63 z3, Duo w3 s r vs3 vr3 l3 f3 x3 y73 y63 z3 (U + t.size + clampN n + 1) ∧ Two w s r vs vr w3 vs3 vr3 := by
        have hcl : clampN n ≤ 1048576 := by unfold clampN; split <;> omega
        have st := D1.out.drew.step (l' := l) (f' := f) (x' := x) (y7' := y7) (y6' := y6) (z' := z) (U' := U + t.size + clampN n + 1) k3.out s3.out n3.out j3.out r3.out m3.out D1.out.eqy (by omega) (by omega) (by omega) hind
        exact ⟨_, _, _, _, _, _, st.1, T1.out.drew.trans st.2⟩
      obtain ⟨l3, f3, x3, y73, y63, z3, D3, T3⟩ := DT
      have hr3 := D3.room; have h73 := D3.col7; have h63 := D3.col6; have hi3 := D3.ind
      have hcl : clampN n ≤ 1048576 := by unfold clampN; split <;> omega
      obtain ⟨C, hC⟩ : ∃ C : Int, (if f3 then (y73 : Int) else x3) + z3 = C := ⟨_, rfl⟩
      have hC6 : (if (!f3) then (x3 : Int) else y63) + z3 = C := by
        rw [← hC]
        cases hf : f3
        · rfl
        · have := D3.eqy hf; simp; omega
      have c7 := sk_Column s vs3 l3 f3 x3 y73 z3 w3 D3.sk (by omega) (by omega) (by omega)
      rw [hC] at c7
      replace c7 := Lib.hid c7; replace hC := Lib.hid hC; replace hC6 := Lib.hid hC6; replace D3 := Lib.hid D3; replace T3 := Lib.hid T3
      go_wp2_with fail
      refine c7.out.mono ?_
      rintro e w4 ⟨rfl, k4, s4⟩
      have D4 := Lib.hid (D3.out.read7 k4 s4)
      have T4 := Lib.hid (T3.out.trans (Two.read7 k4))
      clear D3 T3 c7
      have c6 := r6_Column r vr3 l3 (!f3) x3 y63 z3 w4 D4.out.rf (by omega) (by omega) (by omega)
      rw [hC6.out] at c6
      replace c6 := Lib.hid c6
      go_wp2_with fail
      refine c6.out.mono ?_
      rintro e w5 ⟨rfl, k5, s5⟩
      have D5 := Lib.hid (D4.out.read6 k5 s5)
      have T5 := Lib.hid (T4.out.trans (Two.read6 k5))
      clear D4 T4 c6
      go_wp2_with fail
      refine (sk_Fresh s vs3 l3 f3 x3 y73 z3 w5 D5.out.sk).mono ?_
      rintro e w6 ⟨rfl, k6, s6⟩
      have D6 := Lib.hid (D5.out.read7 k6 s6)
      have T6 := Lib.hid (T5.out.trans (Two.read7 k6))
      clear D5 T5
      go_wp2_with fail
      refine (r6_Fresh r vr3 l3 (!f3) x3 y63 z3 w6 D6.out.rf).mono ?_
      rintro e w7 ⟨rfl, k7, s7⟩
      have D7 := Lib.hid (D6.out.read6 k7 s7)
      have T7 := Lib.hid (T6.out.trans (Two.read6 k7))
      clear D6 T6
      go_wp2_with fail
      go_ret
      exact ⟨rfl, _, _, _, _, _, _, _, _, D7.out, T7.out⟩
  by_cases k4 : k = 4
  · subst k4
    cases f
    · have c7 : Calls Tryd.prog 15 #[.pointer (some ⟨s, 0, none⟩)] W1 fun e w' => e = .returned (.int .i64 0) ∧ ∃ v', S7 w' s v' (l ++ [10]) false x 0 0 ∧ Next W1 vs v' ∧ Kept (Own s vs) W1 w' := ((sk_Empty s vs l false x y7 z W1 D1.out.sk (by omega) (by omega)).mono fun e w' ⟨h0, h1, _, h3⟩ => by obtain ⟨v', g2, g3⟩ := h1 rfl; exact ⟨h0, v', g2, g3, h3⟩)
      have c6 : ∀ w2, S6 w2 r vr l true x y6 z → Calls Tryd.prog 46 #[.pointer (some ⟨r, 0, none⟩)] w2 fun e w' => e = .returned (.int .i64 0) ∧ ∃ v', S6 w' r v' (l ++ [10]) true x y6 0 ∧ Next w2 vr v' ∧ Kept (Own r vr) w2 w' := fun w2 h => ((r6_Empty r vr l true x y6 z w2 h (by omega) (by omega)).mono fun e w' ⟨h0, h1, _, h3⟩ => by obtain ⟨v', g2, g3⟩ := h1 rfl; exact ⟨h0, v', g2, g3, h3⟩)
      replace c7 := Lib.hid c7; replace c6 := Lib.hid c6
      go_enter Tryd.func24, Tryd.ntmps24
      go_wp2_with fail
      refine c7.out.mono ?_; rintro e w2 ⟨rfl, vs3, s3, n3, k3⟩
      replace s3 := Lib.hid s3; replace n3 := Lib.hid n3; replace k3 := Lib.hid k3
      go_wp2_with fail
      have r2 := D1.out.rf.kept k3.out D1.out.dis.symm; refine (c6.out w2 r2).mono ?_; rintro e w3 ⟨rfl, vr3, r3, m3, j3⟩
      replace r3 := Lib.hid r3; replace m3 := Lib.hid m3; replace j3 := Lib.hid j3
      have DT : ∃ l3 f3 x3 y73 y63 z3, Duo w3 s r vs3 vr3 l3 f3 x3 y73 y63 z3 (U + t.size + clampN n + 1) ∧ Two w s r vs vr w3 vs3 vr3 := by
        have hcl : clampN n ≤ 1048576 := by unfold clampN; split <;> omega
        have st := D1.out.step (l' := l ++ [10]) (f' := false) (x' := x) (y7' := 0) (y6' := y6) (z' := 0) (U' := U + t.size + clampN n + 1) k3.out s3.out n3.out j3.out r3.out m3.out (fun h => by cases h) (by simp at hroom ⊢; omega) (by omega) (by omega) hind
        exact ⟨_, _, _, _, _, _, st.1, T1.out.trans st.2⟩
      obtain ⟨l3, f3, x3, y73, y63, z3, D3, T3⟩ := DT
      have hr3 := D3.room; have h73 := D3.col7; have h63 := D3.col6; have hi3 := D3.ind
      have hcl : clampN n ≤ 1048576 := by unfold clampN; split <;> omega
      obtain ⟨C, hC⟩ : ∃ C : Int, (if f3 then (y73 : Int) else x3) + z3 = C := ⟨_, rfl⟩
      have hC6 : (if (!f3) then (x3 : Int) else y63) + z3 = C := by
        rw [← hC]
        cases hf : f3
        · rfl
        · have := D3.eqy hf; simp; omega
      have c7 := sk_Column s vs3 l3 f3 x3 y73 z3 w3 D3.sk (by omega) (by omega) (by omega)
      rw [hC] at c7
      replace c7 := Lib.hid c7; replace hC := Lib.hid hC; replace hC6 := Lib.hid hC6; replace D3 := Lib.hid D3; replace T3 := Lib.hid T3
      go_wp2_with fail
      refine c7.out.mono ?_
      rintro e w4 ⟨rfl, k4, s4⟩
      have D4 := Lib.hid (D3.out.read7 k4 s4)
      have T4 := Lib.hid (T3.out.trans (Two.read7 k4))
      clear D3 T3 c7
      have c6 := r6_Column r vr3 l3 (!f3) x3 y63 z3 w4 D4.out.rf (by omega) (by omega) (by omega)
      rw [hC6.out] at c6
      replace c6 := Lib.hid c6
      go_wp2_with fail
      refine c6.out.mono ?_
      rintro e w5 ⟨rfl, k5, s5⟩
      have D5 := Lib.hid (D4.out.read6 k5 s5)
      have T5 := Lib.hid (T4.out.trans (Two.read6 k5))
      clear D4 T4 c6
      go_wp2_with fail
      refine (sk_Fresh s vs3 l3 f3 x3 y73 z3 w5 D5.out.sk).mono ?_
      rintro e w6 ⟨rfl, k6, s6⟩
      have D6 := Lib.hid (D5.out.read7 k6 s6)
      have T6 := Lib.hid (T5.out.trans (Two.read7 k6))
      clear D5 T5
      go_wp2_with fail
      refine (r6_Fresh r vr3 l3 (!f3) x3 y63 z3 w6 D6.out.rf).mono ?_
      rintro e w7 ⟨rfl, k7, s7⟩
      have D7 := Lib.hid (D6.out.read6 k7 s7)
      have T7 := Lib.hid (T6.out.trans (Two.read6 k7))
      clear D6 T6
      go_wp2_with fail
      go_ret
      exact ⟨rfl, _, _, _, _, _, _, _, _, D7.out, T7.out⟩
    · have c7 : Calls Tryd.prog 15 #[.pointer (some ⟨s, 0, none⟩)] W1 fun e w' => e = .returned (.int .i64 0) ∧ ∃ v', S7 w' s v' l true x y7 z ∧ Next W1 vs v' ∧ Kept (Own s vs) W1 w' := ((sk_Empty s vs l true x y7 z W1 D1.out.sk (by omega) (by omega)).mono fun e w' ⟨h0, _, h1, h3⟩ => ⟨h0, vs, h1 rfl, Next.refl _ _, h3⟩)
      have c6 : ∀ w2, S6 w2 r vr l false x y6 z → Calls Tryd.prog 46 #[.pointer (some ⟨r, 0, none⟩)] w2 fun e w' => e = .returned (.int .i64 0) ∧ ∃ v', S6 w' r v' l false x y6 z ∧ Next w2 vr v' ∧ Kept (Own r vr) w2 w' := fun w2 h => ((r6_Empty r vr l false x y6 z w2 h (by omega) (by omega)).mono fun e w' ⟨h0, _, h1, h3⟩ => ⟨h0, vr, h1 rfl, Next.refl _ _, h3⟩)
      replace c7 := Lib.hid c7; replace c6 := Lib.hid c6
      go_enter Tryd.func24, Tryd.ntmps24
      go_wp2_with fail
      refine c7.out.mono ?_; rintro e w2 ⟨rfl, vs3, s3, n3, k3⟩
      replace s3 := Lib.hid s3; replace n3 := Lib.hid n3; replace k3 := Lib.hid k3
      go_wp2_with fail
      have r2 := D1.out.rf.kept k3.out D1.out.dis.symm; refine (c6.out w2 r2).mono ?_; rintro e w3 ⟨rfl, vr3, r3, m3, j3⟩
      replace r3 := Lib.hid r3; replace m3 := Lib.hid m3; replace j3 := Lib.hid j3
      have DT : ∃ l3 f3 x3 y73 y63 z3, Duo w3 s r vs3 vr3 l3 f3 x3 y73 y63 z3 (U + t.size + clampN n + 1) ∧ Two w s r vs vr w3 vs3 vr3 := by
        have hcl : clampN n ≤ 1048576 := by unfold clampN; split <;> omega
        have st := D1.out.step (l' := l) (f' := true) (x' := x) (y7' := y7) (y6' := y6) (z' := z) (U' := U + t.size + clampN n + 1) k3.out s3.out n3.out j3.out r3.out m3.out D1.out.eqy (by simp at hroom ⊢; omega) (by omega) (by omega) hind
        exact ⟨_, _, _, _, _, _, st.1, T1.out.trans st.2⟩
      obtain ⟨l3, f3, x3, y73, y63, z3, D3, T3⟩ := DT
      have hr3 := D3.room; have h73 := D3.col7; have h63 := D3.col6; have hi3 := D3.ind
      have hcl : clampN n ≤ 1048576 := by unfold clampN; split <;> omega
      obtain ⟨C, hC⟩ : ∃ C : Int, (if f3 then (y73 : Int) else x3) + z3 = C := ⟨_, rfl⟩
      have hC6 : (if (!f3) then (x3 : Int) else y63) + z3 = C := by
        rw [← hC]
        cases hf : f3
        · rfl
        · have := D3.eqy hf; simp; omega
      have c7 := sk_Column s vs3 l3 f3 x3 y73 z3 w3 D3.sk (by omega) (by omega) (by omega)
      rw [hC] at c7
      replace c7 := Lib.hid c7; replace hC := Lib.hid hC; replace hC6 := Lib.hid hC6; replace D3 := Lib.hid D3; replace T3 := Lib.hid T3
      go_wp2_with fail
      refine c7.out.mono ?_
      rintro e w4 ⟨rfl, k4, s4⟩
      have D4 := Lib.hid (D3.out.read7 k4 s4)
      have T4 := Lib.hid (T3.out.trans (Two.read7 k4))
      clear D3 T3 c7
      have c6 := r6_Column r vr3 l3 (!f3) x3 y63 z3 w4 D4.out.rf (by omega) (by omega) (by omega)
      rw [hC6.out] at c6
      replace c6 := Lib.hid c6
      go_wp2_with fail
      refine c6.out.mono ?_
      rintro e w5 ⟨rfl, k5, s5⟩
      have D5 := Lib.hid (D4.out.read6 k5 s5)
      have T5 := Lib.hid (T4.out.trans (Two.read6 k5))
      clear D4 T4 c6
      go_wp2_with fail
      refine (sk_Fresh s vs3 l3 f3 x3 y73 z3 w5 D5.out.sk).mono ?_
      rintro e w6 ⟨rfl, k6, s6⟩
      have D6 := Lib.hid (D5.out.read7 k6 s6)
      have T6 := Lib.hid (T5.out.trans (Two.read7 k6))
      clear D5 T5
      go_wp2_with fail
      refine (r6_Fresh r vr3 l3 (!f3) x3 y63 z3 w6 D6.out.rf).mono ?_
      rintro e w7 ⟨rfl, k7, s7⟩
      have D7 := Lib.hid (D6.out.read6 k7 s7)
      have T7 := Lib.hid (T6.out.trans (Two.read6 k7))
      clear D6 T6
      go_wp2_with fail
      go_ret
      exact ⟨rfl, _, _, _, _, _, _, _, _, D7.out, T7.out⟩
  by_cases k5 : k = 5
  · subst k5
    obtain ⟨A, hA⟩ : ∃ A : ByteArray, ⟨l.toArray⟩ = A := ⟨_, rfl⟩
    replace hA := Lib.hid hA
    have c7 : Calls Tryd.prog 18 #[.pointer (some ⟨s, 0, none⟩)] W1 fun e w' => e = .returned (.string A) ∧ ∃ v', S7 w' s v' [] f x y7 z ∧ Next W1 vs v' ∧ Kept (Own s vs) W1 w' := ((sk_Take s vs l f x y7 z W1 D1.out.sk).mono fun e w' ⟨h0, h3, h1⟩ => ⟨hA.out ▸ h0, _, h1, fun k hk => (by cases hk), h3⟩)
    have c6 : ∀ w2, S6 w2 r vr l (!f) x y6 z → Calls Tryd.prog 47 #[.pointer (some ⟨r, 0, none⟩)] w2 fun e w' => e = .returned (.string A) ∧ ∃ v', S6 w' r v' [] (!f) x y6 z ∧ Next w2 vr v' ∧ Kept (Own r vr) w2 w' := fun w2 h => ((r6_Take r vr l (!f) x y6 z w2 h).mono fun e w' ⟨h0, h3, h1⟩ => ⟨hA.out ▸ h0, _, h1, fun k hk => (by cases hk), h3⟩)
    replace c7 := Lib.hid c7; replace c6 := Lib.hid c6
    go_enter Tryd.func24, Tryd.ntmps24
    go_wp2_with fail
    refine c7.out.mono ?_; rintro e w2 ⟨rfl, vs3, s3, n3, k3⟩
    replace s3 := Lib.hid s3; replace n3 := Lib.hid n3; replace k3 := Lib.hid k3
    go_wp2_with fail
    have r2 := D1.out.rf.kept k3.out D1.out.dis.symm; refine (c6.out w2 r2).mono ?_; rintro e w3 ⟨rfl, vr3, r3, m3, j3⟩
    replace r3 := Lib.hid r3; replace m3 := Lib.hid m3; replace j3 := Lib.hid j3
    have DT : ∃ l3 f3 x3 y73 y63 z3, Duo w3 s r vs3 vr3 l3 f3 x3 y73 y63 z3 (U + t.size + clampN n + 1) ∧ Two w s r vs vr w3 vs3 vr3 := by
      have hcl : clampN n ≤ 1048576 := by unfold clampN; split <;> omega
      have st := D1.out.step (l' := ([] : List UInt8)) (f' := f) (x' := x) (y7' := y7) (y6' := y6) (z' := z) (U' := U + t.size + clampN n + 1) k3.out s3.out n3.out j3.out r3.out m3.out D1.out.eqy (by simp at hroom ⊢; omega) (by omega) (by omega) hind
      exact ⟨_, _, _, _, _, _, st.1, T1.out.trans st.2⟩
    obtain ⟨l3, f3, x3, y73, y63, z3, D3, T3⟩ := DT
    have hr3 := D3.room; have h73 := D3.col7; have h63 := D3.col6; have hi3 := D3.ind
    have hcl : clampN n ≤ 1048576 := by unfold clampN; split <;> omega
    obtain ⟨C, hC⟩ : ∃ C : Int, (if f3 then (y73 : Int) else x3) + z3 = C := ⟨_, rfl⟩
    have hC6 : (if (!f3) then (x3 : Int) else y63) + z3 = C := by
      rw [← hC]
      cases hf : f3
      · rfl
      · have := D3.eqy hf; simp; omega
    have c7 := sk_Column s vs3 l3 f3 x3 y73 z3 w3 D3.sk (by omega) (by omega) (by omega)
    rw [hC] at c7
    replace c7 := Lib.hid c7; replace hC := Lib.hid hC; replace hC6 := Lib.hid hC6; replace D3 := Lib.hid D3; replace T3 := Lib.hid T3
    go_wp2_with fail
    refine c7.out.mono ?_
    rintro e w4 ⟨rfl, k4, s4⟩
    have D4 := Lib.hid (D3.out.read7 k4 s4)
    have T4 := Lib.hid (T3.out.trans (Two.read7 k4))
    clear D3 T3 c7
    have c6 := r6_Column r vr3 l3 (!f3) x3 y63 z3 w4 D4.out.rf (by omega) (by omega) (by omega)
    rw [hC6.out] at c6
    replace c6 := Lib.hid c6
    go_wp2_with fail
    refine c6.out.mono ?_
    rintro e w5 ⟨rfl, k5, s5⟩
    have D5 := Lib.hid (D4.out.read6 k5 s5)
    have T5 := Lib.hid (T4.out.trans (Two.read6 k5))
    clear D4 T4 c6
    go_wp2_with fail
    refine (sk_Fresh s vs3 l3 f3 x3 y73 z3 w5 D5.out.sk).mono ?_
    rintro e w6 ⟨rfl, k6, s6⟩
    have D6 := Lib.hid (D5.out.read7 k6 s6)
    have T6 := Lib.hid (T5.out.trans (Two.read7 k6))
    clear D5 T5
    go_wp2_with fail
    refine (r6_Fresh r vr3 l3 (!f3) x3 y63 z3 w6 D6.out.rf).mono ?_
    rintro e w7 ⟨rfl, k7, s7⟩
    have D7 := Lib.hid (D6.out.read6 k7 s7)
    have T7 := Lib.hid (T6.out.trans (Two.read6 k7))
    clear D6 T6
    go_wp2_with fail
    go_ret
    exact ⟨rfl, _, _, _, _, _, _, _, _, D7.out, T7.out⟩
  · obtain ⟨vs3, hvs3⟩ : ∃ v, vs = v := ⟨_, rfl⟩
    obtain ⟨vr3, hvr3⟩ : ∃ v, vr = v := ⟨_, rfl⟩
    obtain ⟨w3, hw3⟩ : ∃ v, W1 = v := ⟨_, rfl⟩
    have DT : ∃ l3 f3 x3 y73 y63 z3, Duo w3 s r vs3 vr3 l3 f3 x3 y73 y63 z3 (U + t.size + clampN n + 1) ∧ Two w s r vs vr w3 vs3 vr3 := by
      rw [← hvs3, ← hvr3, ← hw3]
      exact ⟨_, _, _, _, _, _, D1.out.mono (by omega), T1.out⟩
    clear hvs3 hvr3
    rw [hw3] at hW1 ho0 ho2 ho3
    clear hw3
    go_enter Tryd.func24, Tryd.ntmps24
    obtain ⟨l3, f3, x3, y73, y63, z3, D3, T3⟩ := DT
    have hr3 := D3.room; have h73 := D3.col7; have h63 := D3.col6; have hi3 := D3.ind
    have hcl : clampN n ≤ 1048576 := by unfold clampN; split <;> omega
    obtain ⟨C, hC⟩ : ∃ C : Int, (if f3 then (y73 : Int) else x3) + z3 = C := ⟨_, rfl⟩
    have hC6 : (if (!f3) then (x3 : Int) else y63) + z3 = C := by
      rw [← hC]
      cases hf : f3
      · rfl
      · have := D3.eqy hf; simp; omega
    have c7 := sk_Column s vs3 l3 f3 x3 y73 z3 w3 D3.sk (by omega) (by omega) (by omega)
    rw [hC] at c7
    replace c7 := Lib.hid c7; replace hC := Lib.hid hC; replace hC6 := Lib.hid hC6; replace D3 := Lib.hid D3; replace T3 := Lib.hid T3
    go_wp2_with fail
    refine c7.out.mono ?_
    rintro e w4 ⟨rfl, k4, s4⟩
    have D4 := Lib.hid (D3.out.read7 k4 s4)
    have T4 := Lib.hid (T3.out.trans (Two.read7 k4))
    clear D3 T3 c7
    have c6 := r6_Column r vr3 l3 (!f3) x3 y63 z3 w4 D4.out.rf (by omega) (by omega) (by omega)
    rw [hC6.out] at c6
    replace c6 := Lib.hid c6
    go_wp2_with fail
    refine c6.out.mono ?_
    rintro e w5 ⟨rfl, k5, s5⟩
    have D5 := Lib.hid (D4.out.read6 k5 s5)
    have T5 := Lib.hid (T4.out.trans (Two.read6 k5))
    clear D4 T4 c6
    go_wp2_with fail
    refine (sk_Fresh s vs3 l3 f3 x3 y73 z3 w5 D5.out.sk).mono ?_
    rintro e w6 ⟨rfl, k6, s6⟩
    have D6 := Lib.hid (D5.out.read7 k6 s6)
    have T6 := Lib.hid (T5.out.trans (Two.read7 k6))
    clear D5 T5
    go_wp2_with fail
    refine (r6_Fresh r vr3 l3 (!f3) x3 y63 z3 w6 D6.out.rf).mono ?_
    rintro e w7 ⟨rfl, k7, s7⟩
    have D7 := Lib.hid (D6.out.read6 k7 s7)
    have T7 := Lib.hid (T6.out.trans (Two.read6 k7))
    clear D6 T6
    go_wp2_with fail
    go_ret
    exact ⟨rfl, _, _, _, _, _, _, _, _, D7.out, T7.out⟩
end Go.Proofs.YtphcmbdmkhmfbaaDoor
