/- A call on the program's sink (law 06's 'does'): what it does, exactly. -/
import Derived.Test.YtphcmbdmkhmfbaaDoorScript
namespace Go.Proofs.YtphcmbdmkhmfbaaDoor
open Go.RowKit Go.Lib
/-- What a sink holds. -/
structure Pn where
  l : List UInt8
  f : Bool
  x : Nat
  y : Nat
  z : Nat
/-- The program's sink at s holds p; U: how much was handed in. -/
structure Pen (w : World) (s : Nat) (vs : Value) (p : Pn) (U : Nat) : Prop where
  sk : S7 w s vs p.l p.f p.x p.y p.z
  room : p.l.length + p.z + (if p.f then 0 else p.x) ≤ U
  col : p.y + p.z ≤ 2 * U + 1048576
  ind : p.x ≤ 1048576
theorem Pen.below {w w' : World} {s : Nat} {vs : Value} {p : Pn} {U : Nat} (h : Pen w s vs p U) (k : Below w.heap.size w w') : Pen w' s vs p U := ⟨h.sk.below k, h.room, h.col, h.ind⟩
theorem Pen.mono {w : World} {s : Nat} {vs : Value} {p : Pn} {U U' : Nat} (h : Pen w s vs p U) (hU : U ≤ U') : Pen w s vs p U' := ⟨h.sk, by have := h.room; omega, by have := h.col; omega, h.ind⟩
/-- What a call writes, and where the sink stands behind it. -/
structure Dn where
  add : List UInt8
  f : Bool
  x : Nat
  y : Nat
  z : Nat
def dStep (a : ActV) (f : Bool) (x y z : Nat) : Dn :=
  if a.k = 1 then (if a.t.size = 0 then ⟨[], f, x, y, z⟩ else ⟨padOf (!f) x ++ List.replicate z 32 ++ a.t.data.toList, true, x, (colAfter a.t ((if f then (y : Int) else x) + z)).toNat, 0⟩)
  else if a.k = 2 then (if 0 ≤ a.n ∧ a.n ≤ 1048576 then ⟨[], f, x, y, z + a.n.toNat⟩ else ⟨[], f, x, y, z⟩)
  else if a.k = 3 then (if 0 ≤ a.n ∧ a.n ≤ 1048576 then ⟨[10], false, a.n.toNat, 0, 0⟩ else ⟨[], f, x, y, z⟩)
  else if a.k = 4 then (if f then ⟨[], f, x, y, z⟩ else ⟨[10], false, x, 0, 0⟩)
  else ⟨[], f, x, y, z⟩
def dPn (a : ActV) (p : Pn) : Pn := let d := dStep a p.f p.x p.y p.z; ⟨p.l ++ d.add, d.f, d.x, d.y, d.z⟩
set_option maxHeartbeats 4000000 in
set_option maxRecDepth 100000 in
theorem law_does (s : Nat) (vs : Value) (p : Pn) (U : Nat) (a : ActV) (w : World) (D : Pen w s vs p U) (hU : U + a.t.size ≤ 17179869184) (hT : Tabs w) (hg1 : 0 < s) (hg2 : 1 < s) :
    Calls Tryd.prog 25 #[.pointer (some ⟨s, 0, none⟩), .agg #[.int .i64 a.k, .bool a.o, .string a.t, .int .i64 a.n]] w fun e w' => e = .returned (.tuple #[]) ∧ ∃ vs', Pen w' s vs' (dPn a p) (U + a.t.size + clampN a.n + 1) ∧ Next w vs vs' ∧ Kept (Own s vs) w w' := by
  obtain ⟨l, f, x, y, z⟩ := p
  obtain ⟨k, ot, t, n⟩ := a
  unfold dPn
  simp only at hU ⊢
  obtain ⟨sd, hsd⟩ : ∃ d, dStep ⟨k, ot, t, n⟩ f x y z = d := ⟨_, rfl⟩
  rw [hsd]
  have hb1 : Below w.heap.size w (w.alloc (.cells #[.int .i64 k, .bool ot, .string t, .int .i64 n] 37)) := (Below.refl _ _).alloc (Nat.le_refl _) _
  have D1 := D.below hb1
  have hT1 := hT.below hb1
  have hroom := D.room; have hcol := D.col; have hind := D.ind
  simp only at hroom hcol hind
  have hfx : (if f then 0 else x) ≤ x := by split <;> omega
  have ho := (Blk.new w #[.int .i64 k, .bool ot, .string t, .int .i64 n] 37)
  have hK1 : Kept (Own s vs) w (w.alloc (.cells #[.int .i64 k, .bool ot, .string t, .int .i64 n] 37)) := Kept.of_below hb1
  have hz1 : w.heap.size ≤ (w.alloc (.cells #[.int .i64 k, .bool ot, .string t, .int .i64 n] 37)).heap.size := by simp
  obtain ⟨W1, hW1⟩ : ∃ W1, w.alloc (.cells #[.int .i64 k, .bool ot, .string t, .int .i64 n] 37) = W1 := ⟨_, rfl⟩
  rw [hW1] at D1 hT1 ho hK1 hz1
  have ho0 := ho.cell 0; have ho2 := ho.cell 2; have ho3 := ho.cell 3
  simp at ho0 ho2 ho3
  replace D1 := Lib.hid D1; replace hT1 := Lib.hid hT1; replace hT := Lib.hid hT; replace D := Lib.hid D; replace hK1 := Lib.hid hK1; replace hsd := Lib.hid hsd
  by_cases k1 : k = 1
  · subst k1
    by_cases ht : t.size = 0
    · have ht0 : t = ⟨#[]⟩ := by cases t with | mk d => simp [ByteArray.size] at ht; subst ht; rfl
      subst ht0
      go_enter Tryd.func25, Tryd.ntmps25
      go_wp2_with fail
      refine (show Calls Tryd.prog 12 #[.pointer (some ⟨s, 0, none⟩), .string ⟨#[]⟩] W1 fun e w' => e = .returned (.int .i64 0) ∧ ∃ v', S7 w' s v' l f x y z ∧ Next W1 vs v' ∧ Kept (Own s vs) W1 w' from (sk_Text0 s W1).mono fun e w' ⟨h1, h2⟩ => ⟨h1, vs, D1.out.sk.below h2, Next.refl _ _, Kept.of_below h2⟩).mono ?_
      rintro e w2 ⟨rfl, vs2, s2, n2, k2⟩
      replace s2 := Lib.hid s2; replace n2 := Lib.hid n2; replace k2 := Lib.hid k2
      go_wp2_with fail
      go_end0
      refine ⟨rfl, vs2, ?_, (Next.refl w vs).trans hz1 n2.out, hK1.out.trans k2.out (fun _ _ e => e)⟩
      rw [← hsd.out]
      have hcl : clampN n ≤ 1048576 := by unfold clampN; split <;> omega
      have e1 : dStep ⟨1, ot, ⟨#[]⟩, n⟩ f x y z = ⟨[], f, x, y, z⟩ := rfl
      rw [e1]
      exact ⟨by simpa using s2.out, by simp; omega, by show y + z ≤ _; omega, hind⟩
    · obtain ⟨Y, hY⟩ : ∃ Y : Nat, colAfter t ((if f then (y : Int) else x) + z) = Y := ⟨(colAfter t ((if f then (y : Int) else x) + z)).toNat, by have := (colAfter_le t ((if f then (y : Int) else x) + z) (by split <;> omega)).1; omega⟩
      have hYb : Y ≤ (if f then y else x) + z + 2 * t.size := by have := (colAfter_le t ((if f then (y : Int) else x) + z) (by split <;> omega)).2; rw [hY] at this; split <;> simp_all <;> omega
      have hYc : Y ≤ 2 * (U + t.size) + 1048576 := by cases f <;> simp at hroom hYb <;> omega
      have e1 : dStep ⟨1, ot, t, n⟩ f x y z = ⟨padOf (!f) x ++ List.replicate z 32 ++ t.data.toList, true, x, Y, 0⟩ := by unfold dStep; simp [ht, hY]
      obtain ⟨L, hL⟩ : ∃ L, l ++ padOf (!f) x ++ List.replicate z 32 ++ t.data.toList = L := ⟨_, rfl⟩
      have hLl : L.length ≤ U + t.size := by
        rw [← hL]
        have h2 : t.data.toList.length = t.size := Array.length_toList
        simp only [List.length_append, List.length_replicate, h2, padOf]
        cases f <;> simp at hroom ⊢ <;> omega
      have c7 := sk_Text s vs l f x y z t W1 D1.out.sk ht (by omega) (by omega) hT1.out hg1 hg2
      rw [hY, hL] at c7
      replace c7 := Lib.hid c7; replace hY := Lib.hid hY; replace hL := Lib.hid hL; replace e1 := Lib.hid e1
      go_enter Tryd.func25, Tryd.ntmps25
      go_wp2_with fail
      refine (show Calls Tryd.prog 12 #[.pointer (some ⟨s, 0, none⟩), .string t] W1 fun e w' => e = .returned (.int .i64 0) ∧ ∃ v', S7 w' s v' L true x Y 0 ∧ Next W1 vs v' ∧ Kept (Own s vs) W1 w' from c7.out.mono fun e w' ⟨h1, ⟨v', h2, h3⟩, h4⟩ => ⟨h1, v', h2, h3, h4⟩).mono ?_
      rintro e w2 ⟨rfl, vs2, s2, n2, k2⟩
      replace s2 := Lib.hid s2; replace n2 := Lib.hid n2; replace k2 := Lib.hid k2
      go_wp2_with fail
      go_end0
      refine ⟨rfl, vs2, ?_, (Next.refl w vs).trans hz1 n2.out, hK1.out.trans k2.out (fun _ _ e => e)⟩
      rw [← hsd.out]
      have hcl : clampN n ≤ 1048576 := by unfold clampN; split <;> omega
      rw [e1.out]
      have hL2 : l ++ (padOf (!f) x ++ List.replicate z 32 ++ t.data.toList) = L := by rw [← hL.out]; simp [List.append_assoc]
      refine ⟨by rw [hL2]; exact s2.out, ?_, by show Y + 0 ≤ _; omega, hind⟩
      rw [hL2]
      show L.length + 0 + 0 ≤ _
      omega
  by_cases k2 : k = 2
  · subst k2
    by_cases hn : 0 ≤ n ∧ n ≤ 1048576
    · obtain ⟨Z, hZ⟩ : ∃ Z : Nat, (z : Int) + n = Z := ⟨((z : Int) + n).toNat, by omega⟩
      have hZn : Z = z + n.toNat := by omega
      have hcn := clampN_of hn
      replace hZ := Lib.hid hZ; replace hcn := Lib.hid hcn
      go_enter Tryd.func25, Tryd.ntmps25
      go_wp2_with fail
      refine (show Calls Tryd.prog 13 #[.pointer (some ⟨s, 0, none⟩), .int .i64 n] W1 fun e w' => e = .returned (.int .i64 0) ∧ ∃ v', S7 w' s v' l f x y Z ∧ Next W1 vs v' ∧ Kept (Own s vs) W1 w' from (sk_Blanks s vs l f x y z n W1 D1.out.sk (by omega)).mono fun e w' ⟨h1, _, h3⟩ => ⟨(h1 hn).1, vs, by rw [← hZ.out]; exact (h1 hn).2, Next.refl _ _, h3⟩).mono ?_
      rintro e w2 ⟨rfl, vs2, s2, n2, k2⟩
      replace s2 := Lib.hid s2; replace n2 := Lib.hid n2; replace k2 := Lib.hid k2
      go_wp2_with fail
      go_end0
      refine ⟨rfl, vs2, ?_, (Next.refl w vs).trans hz1 n2.out, hK1.out.trans k2.out (fun _ _ e => e)⟩
      rw [← hsd.out]
      have hcl : clampN n ≤ 1048576 := by unfold clampN; split <;> omega
      have e1 : dStep ⟨2, ot, t, n⟩ f x y z = ⟨[], f, x, y, Z⟩ := by unfold dStep; simp [hn, hZn]
      rw [e1]
      have hcn := hcn.out
      exact ⟨by simpa using s2.out, by simp; omega, by show y + Z ≤ _; omega, hind⟩
    · go_enter Tryd.func25, Tryd.ntmps25
      go_wp2_with fail
      refine (show Calls Tryd.prog 13 #[.pointer (some ⟨s, 0, none⟩), .int .i64 n] W1 fun e w' => e = .returned (.int .i64 1) ∧ ∃ v', S7 w' s v' l f x y z ∧ Next W1 vs v' ∧ Kept (Own s vs) W1 w' from (sk_Blanks s vs l f x y z n W1 D1.out.sk (by omega)).mono fun e w' ⟨_, h2, h3⟩ => ⟨(h2 hn).1, vs, (h2 hn).2, Next.refl _ _, h3⟩).mono ?_
      rintro e w2 ⟨rfl, vs2, s2, n2, k2⟩
      replace s2 := Lib.hid s2; replace n2 := Lib.hid n2; replace k2 := Lib.hid k2
      go_wp2_with fail
      go_end0
      refine ⟨rfl, vs2, ?_, (Next.refl w vs).trans hz1 n2.out, hK1.out.trans k2.out (fun _ _ e => e)⟩
      rw [← hsd.out]
      have hcl : clampN n ≤ 1048576 := by unfold clampN; split <;> omega
      have e1 : dStep ⟨2, ot, t, n⟩ f x y z = ⟨[], f, x, y, z⟩ := by unfold dStep; simp [hn]
      rw [e1]
      exact ⟨by simpa using s2.out, by simp; omega, by show y + z ≤ _; omega, hind⟩
  by_cases k3 : k = 3
  · subst k3
    by_cases hn : 0 ≤ n ∧ n ≤ 1048576
    · obtain ⟨N, rfl⟩ : ∃ N : Nat, n = N := ⟨n.toNat, by omega⟩
      have hcn := clampN_of hn
      replace hcn := Lib.hid hcn
      go_enter Tryd.func25, Tryd.ntmps25
      go_wp2_with fail
      refine (show Calls Tryd.prog 14 #[.pointer (some ⟨s, 0, none⟩), .int .i64 N] W1 fun e w' => e = .returned (.int .i64 0) ∧ ∃ v', S7 w' s v' (l ++ [10]) false N 0 0 ∧ Next W1 vs v' ∧ Kept (Own s vs) W1 w' from (sk_Feed s vs l f x y z N W1 D1.out.sk (by omega)).mono fun e w' ⟨h1, _, h3⟩ => by obtain ⟨g1, v', g2, g3⟩ := h1 hn; exact ⟨g1, v', g2, g3, h3⟩).mono ?_
      rintro e w2 ⟨rfl, vs2, s2, n2, k2⟩
      replace s2 := Lib.hid s2; replace n2 := Lib.hid n2; replace k2 := Lib.hid k2
      go_wp2_with fail
      go_end0
      refine ⟨rfl, vs2, ?_, (Next.refl w vs).trans hz1 n2.out, hK1.out.trans k2.out (fun _ _ e => e)⟩
      rw [← hsd.out]
      have hcl : clampN N ≤ 1048576 := by unfold clampN; split <;> omega
      have e1 : dStep ⟨3, ot, t, N⟩ f x y z = ⟨[10], false, N, 0, 0⟩ := by unfold dStep; simp [hn]
      rw [e1]
      have hcn := hcn.out
      simp at hcn
      exact ⟨s2.out, by simp; omega, by show 0 + 0 ≤ _; omega, by show N ≤ _; omega⟩
    · go_enter Tryd.func25, Tryd.ntmps25
      go_wp2_with fail
      refine (show Calls Tryd.prog 14 #[.pointer (some ⟨s, 0, none⟩), .int .i64 n] W1 fun e w' => e = .returned (.int .i64 1) ∧ ∃ v', S7 w' s v' l f x y z ∧ Next W1 vs v' ∧ Kept (Own s vs) W1 w' from (sk_Feed s vs l f x y z n W1 D1.out.sk (by omega)).mono fun e w' ⟨_, h2, h3⟩ => ⟨(h2 hn).1, vs, (h2 hn).2, Next.refl _ _, h3⟩).mono ?_
      rintro e w2 ⟨rfl, vs2, s2, n2, k2⟩
      replace s2 := Lib.hid s2; replace n2 := Lib.hid n2; replace k2 := Lib.hid k2
      go_wp2_with fail
      go_end0
      refine ⟨rfl, vs2, ?_, (Next.refl w vs).trans hz1 n2.out, hK1.out.trans k2.out (fun _ _ e => e)⟩
      rw [← hsd.out]
      have hcl : clampN n ≤ 1048576 := by unfold clampN; split <;> omega
      have e1 : dStep ⟨3, ot, t, n⟩ f x y z = ⟨[], f, x, y, z⟩ := by unfold dStep; simp [hn]
      rw [e1]
      exact ⟨by simpa using s2.out, by simp; omega, by show y + z ≤ _; omega, hind⟩
  by_cases k4 : k = 4
  · subst k4
    cases f
    · go_enter Tryd.func25, Tryd.ntmps25
      go_wp2_with fail
      refine (show Calls Tryd.prog 15 #[.pointer (some ⟨s, 0, none⟩)] W1 fun e w' => e = .returned (.int .i64 0) ∧ ∃ v', S7 w' s v' (l ++ [10]) false x 0 0 ∧ Next W1 vs v' ∧ Kept (Own s vs) W1 w' from (sk_Empty s vs l false x y z W1 D1.out.sk (by omega) (by omega)).mono fun e w' ⟨h0, h1, _, h3⟩ => by obtain ⟨v', g2, g3⟩ := h1 rfl; exact ⟨h0, v', g2, g3, h3⟩).mono ?_
      rintro e w2 ⟨rfl, vs2, s2, n2, k2⟩
      replace s2 := Lib.hid s2; replace n2 := Lib.hid n2; replace k2 := Lib.hid k2
      go_wp2_with fail
      go_end0
      refine ⟨rfl, vs2, ?_, (Next.refl w vs).trans hz1 n2.out, hK1.out.trans k2.out (fun _ _ e => e)⟩
      rw [← hsd.out]
      have hcl : clampN n ≤ 1048576 := by unfold clampN; split <;> omega
      have e1 : dStep ⟨4, ot, t, n⟩ false x y z = ⟨[10], false, x, 0, 0⟩ := rfl
      rw [e1]
      exact ⟨s2.out, by simp at hroom ⊢; omega, by show 0 + 0 ≤ _; omega, hind⟩
    · go_enter Tryd.func25, Tryd.ntmps25
      go_wp2_with fail
      refine (show Calls Tryd.prog 15 #[.pointer (some ⟨s, 0, none⟩)] W1 fun e w' => e = .returned (.int .i64 0) ∧ ∃ v', S7 w' s v' l true x y z ∧ Next W1 vs v' ∧ Kept (Own s vs) W1 w' from (sk_Empty s vs l true x y z W1 D1.out.sk (by omega) (by omega)).mono fun e w' ⟨h0, _, h1, h3⟩ => ⟨h0, vs, h1 rfl, Next.refl _ _, h3⟩).mono ?_
      rintro e w2 ⟨rfl, vs2, s2, n2, k2⟩
      replace s2 := Lib.hid s2; replace n2 := Lib.hid n2; replace k2 := Lib.hid k2
      go_wp2_with fail
      go_end0
      refine ⟨rfl, vs2, ?_, (Next.refl w vs).trans hz1 n2.out, hK1.out.trans k2.out (fun _ _ e => e)⟩
      rw [← hsd.out]
      have hcl : clampN n ≤ 1048576 := by unfold clampN; split <;> omega
      have e1 : dStep ⟨4, ot, t, n⟩ true x y z = ⟨[], true, x, y, z⟩ := rfl
      rw [e1]
      exact ⟨by simpa using s2.out, by simp at hroom ⊢; omega, by show y + z ≤ _; omega, hind⟩
  · go_enter Tryd.func25, Tryd.ntmps25
    go_wp2_with fail
    go_end0
    have e1 : dStep ⟨k, ot, t, n⟩ f x y z = ⟨[], f, x, y, z⟩ := by unfold dStep; simp [k1, k2, k3, k4]
    rw [← hsd.out, e1]
    exact ⟨rfl, vs, by have := D1.out.mono (U' := U + t.size + clampN n + 1) (by omega); simpa using this, Next.refl _ _, hK1.out⟩
end Go.Proofs.YtphcmbdmkhmfbaaDoor
