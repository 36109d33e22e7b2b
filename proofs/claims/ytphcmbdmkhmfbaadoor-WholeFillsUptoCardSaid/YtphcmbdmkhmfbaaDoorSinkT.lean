/- Text, Feed and Empty of the program's sink. -/
import Derived.Test.YtphcmbdmkhmfbaaDoorGathA
import Derived.Test.YtphcmbdmkhmfbaaDoorWid
import Derived.Deep.RegionHeld3
namespace Go.Proofs.YtphcmbdmkhmfbaaDoor
open Go.RowKit Go.Lib
theorem cell_kept {own : Nat → Prop} {w w' : World} {b o : Nat} {v : Value} (h : w.cell? ⟨b, o, none⟩ = some v) (k : Kept own w w') (hn : ¬ own b) : w'.cell? ⟨b, o, none⟩ = some v := by
  have := k.block b (cell_lt h) hn
  rw [← h]; unfold World.cell?; simp only [this]
theorem frozen_kept {own : Nat → Prop} {w w' : World} {b o : Nat} (h : w.frozen? ⟨b, o, none⟩ = false) (hb : b < w.heap.size) (k : Kept own w w') (hn : ¬ own b) : w'.frozen? ⟨b, o, none⟩ = false := by
  have := k.block b hb hn
  rw [← h]; unfold World.frozen?; simp only [this]
theorem Tabs.kept {own : Nat → Prop} {w w' : World} (h : Tabs w) (k : Kept own w w') (h1 : ¬ own 0) (h2 : ¬ own 1) : Tabs w' :=
  ⟨fun j v hj => cell_kept (h.1 j v hj) k h1, fun j v hj => cell_kept (h.2 j v hj) k h2⟩
theorem fromAt_pos (s : ByteArray) : ∀ i, nlAt s i ≠ 0 → 1 ≤ fromAt s i
  | 0, h => absurd rfl h
  | i + 1, h => by
    unfold fromAt; unfold nlAt at h
    split
    · omega
    · rename_i h10; rw [if_neg h10] at h; exact fromAt_pos s i h
theorem Kept.then' {own o2 : Nat → Prop} {a w w' : World} (h : Kept own a w) (k : Kept o2 w w') (ho : ∀ i, o2 i → a.heap.size ≤ i) : Kept own a w' :=
  h.trans (o2 := o2) k (fun i hi e => by have := ho i e; omega)
set_option maxHeartbeats 4000000 in
set_option maxRecDepth 100000 in
theorem sk_Text (s : Nat) (v : Value) (l : List UInt8) (f : Bool) (x y z : Nat) (t : ByteArray) (w : World) (hS : S7 w s v l f x y z) (ht : t.size ≠ 0) (hl : l.length + x + z + t.size ≤ 1099511627776) (hy : y ≤ 1099511627776) (hT : Tabs w) (hg1 : 0 < s) (hg2 : 1 < s) :
    Calls Tryd.prog 12 #[.pointer (some ⟨s, 0, none⟩), .string t] w fun e w' => e = .returned (.int .i64 0) ∧ (∃ v', S7 w' s v' (l ++ padOf (!f) x ++ List.replicate z 32 ++ t.data.toList) true x (colAfter t ((if f then (y : Int) else x) + z)) 0 ∧ Next w v v') ∧ Kept (Own s v) w w' := by
  have hs := hS.blk.lt
  have hrow := hS.buf.lt
  have hgg := And.intro hg1 hg2
  have hS := Lib.hid hS
  have hte : t.toList.isEmpty = false := by rw [← decide_eq_emptyBytes]; simp; intro e; subst e; exact ht rfl
  obtain ⟨L, hL⟩ : ∃ L, l ++ padOf (!f) x ++ List.replicate z 32 ++ t.data.toList = L := ⟨_, rfl⟩
  obtain ⟨Y, hY⟩ : ∃ Y : Int, (if f then (y : Int) else x) = Y := ⟨_, rfl⟩
  obtain ⟨C, hC⟩ : ∃ c, colAfter t ((if f then (y : Int) else x) + z) = c := ⟨_, rfl⟩
  rw [hL, hC]
  rw [hY] at hC
  have hYb : 0 ≤ Y ∧ Y ≤ 1099511627776 := by rw [← hY]; split <;> omega
  have hwid := wid_le (t.data.toList.drop (fromAt t t.size))
  have hfr := fromAt_le t t.size
  replace hL := Lib.hid hL; replace hC := Lib.hid hC; replace hY := Lib.hid hY; replace hT := Lib.hid hT
  have hmf : ∀ (fn : Fn) (first cap : Array Value) (w : World), (Instr.makeFunc fn first cap).run Tryd.prog w = .ok (.func fn first cap) w := fun _ _ _ _ => rfl
  go_enter Tryd.func12, Tryd.ntmps12
  go_wp2_with fail
  have hb1 : Below w.heap.size w ((w.alloc (.cells #[.pointer (some ⟨s, 0, none⟩)] 22)).alloc (.cells #[.string t] 9)) := ((Below.refl _ _).alloc (Nat.le_refl _) _).alloc (by simp) _
  have hk1 := (Blk.new w #[.pointer (some ⟨s, 0, none⟩)] 22).alloc (.cells #[.string t] 9)
  have hk2 := Blk.new (w.alloc (.cells #[.pointer (some ⟨s, 0, none⟩)] 22)) #[.string t] 9
  have hz1 : (w.alloc (.cells #[.pointer (some ⟨s, 0, none⟩)] 22)).heap.size = w.heap.size + 1 := by simp
  rw [hz1] at hk2
  refine (sk_gathT s w.heap.size (w.heap.size + 1) v l f x y z t _ ((hS.out.alloc _).alloc _) (by simp) (by simp) (by omega) (by omega) (by omega) (by omega) (by omega)).mono ?_
  rintro e w2 ⟨rfl, v2, hS2, hn2, hq2⟩
  have hno : ∀ k, w.heap.size ≤ k → ¬ Own s v k := fun k hk e => by
    rcases e with e | e
    · omega
    · have := (hrow k e).2; omega
  have kb2 : w2.cell? ⟨w.heap.size, 0, none⟩ = some (.pointer (some ⟨s, 0, none⟩)) := cell_kept (by simp) hq2 (hno _ (by omega))
  have kt2 : w2.cell? ⟨w.heap.size + 1, 0, none⟩ = some (.string t) := cell_kept (by simp) hq2 (hno _ (by omega))
  have kf2 : w2.frozen? ⟨w.heap.size + 1, 0, none⟩ = false := frozen_kept (hk2.frozen 0) hk2.lt hq2 (hno _ (by omega))
  have hzw : w.heap.size + 2 ≤ w2.heap.size := by have := hq2.size; simpa using this
  have hk12 : Kept (Own s v) w w2 := (Kept.of_below (own := Own s v) hb1).trans hq2 (fun _ _ e => e)
  have hnst : ∀ k, v2.ownBlock = some k → v.ownBlock = some k ∨ w.heap.size + 2 ≤ k := fun k hk => by
    rcases hn2 k hk with h | h
    · exact .inl h
    · exact .inr (by simpa using h)
  have hn12 : Next w v v2 := fun k hk => by
    rcases hn2 k hk with h | h
    · exact .inl h
    · exact .inr (by simp at h; omega)
  rw [← List.append_assoc, ← List.append_assoc, hL.out, hY.out] at hS2
  have q3 := hS2.blk.cell 3; have q4 := hS2.blk.cell 4; have f3 := hS2.blk.frozen 3; have f4 := hS2.blk.frozen 4
  simp at q3 q4
  have hw : IntKind.i64.wrap (Y + (z : Int)) = Y + z := IntWalk.i64_in _ (by omega)
  replace hS2 := Lib.hid hS2; replace hk12 := Lib.hid hk12; replace hn12 := Lib.hid hn12
  clear hq2 hn2 hk1 hk2 hz1
  have hsb : ¬ w.heap.size = s := by omega
  have hsb2 : ¬ w.heap.size + 1 = s := by omega
  go_wp2_with fail
  have hS3 := Lib.hid (hS2.out.put3 (Y + (z : Int)))
  have hk3 : Kept (fun i => i = s) w2 (w2.setCell ⟨s, 3, none⟩ (.int .i64 (Y + z))) := (Kept.refl (fun i => i = s) w2).setCell ⟨s, 3, none⟩ _ rfl
  rename_i Q1 K1 hK1
  have tail : Exit.then K1 Q1 Exit.normal { tmps := #[.pointer (some ⟨s, 0, none⟩), .string t, .pointer (some ⟨w.heap.size, 0, none⟩), .pointer (some ⟨w.heap.size + 1, 0, none⟩), .int .i64 0, undef, .pointer (some ⟨s, 0, none⟩), .bool false, .string t, .bool false, .pointer (some ⟨s, 0, none⟩), .func (.func 38) #[] #[.pointer (some ⟨w.heap.size, 0, none⟩), .pointer (some ⟨w.heap.size + 1, 0, none⟩)], .tuple #[], .pointer (some ⟨s, 0, none⟩), .pointer (some ⟨s, 0, none⟩), .pointer (some ⟨s, 3, none⟩), .int .i64 Y, .pointer (some ⟨s, 0, none⟩), .pointer (some ⟨s, 0, none⟩), .pointer (some ⟨s, 4, none⟩), .int .i64 z, .int .i64 (Y + z), .pointer (some ⟨s, 0, none⟩), .pointer (some ⟨s, 3, none⟩), undef, undef, undef, undef, undef, undef, undef, undef, undef, undef, undef, undef, undef, undef, undef, undef, undef, undef, undef, undef, undef, undef, undef], defers := [] } (w2.setCell ⟨s, 3, none⟩ (.int .i64 (Y + (z : Int)))).drew := by
    obtain ⟨W3, hW3⟩ : ∃ W3, (w2.setCell ⟨s, 3, none⟩ (.int .i64 (Y + (z : Int)))).drew = W3 := ⟨_, rfl⟩
    replace hk3 := hk3.drew
    have hS3' : S7 W3 s v2 L true x (Y + (z : Int)) z := by rw [← hW3]; exact hS3.out.drew
    rw [hW3] at hk3 ⊢
    clear hS3 hW3
    replace kb2 := cell_kept kb2 hk3 hsb; replace kt2 := cell_kept kt2 hk3 hsb2; replace kf2 := frozen_kept kf2 (by omega) hk3 hsb2
    have hk13 := hk12.out.trans hk3 (fun i _ e => .inl e)
    clear hk12 hS2 q3 q4 f3 f4
    have f4 := hS3'.blk.frozen 4; have q4 := hS3'.blk.cell 4
    simp at q4
    have hS4 := hS3'.put4 0
    have hk34 : Kept (fun i => i = s) W3 (W3.setCell ⟨s, 4, none⟩ (.int .i64 0)) := (Kept.refl (fun i => i = s) W3).setCell ⟨s, 4, none⟩ _ rfl
    have hzz := hk3.size
    obtain ⟨W4, hW4⟩ : ∃ W4, W3.setCell ⟨s, 4, none⟩ (.int .i64 0) = W4 := ⟨_, rfl⟩
    rw [hW4] at hS4 hk34
    have kt4 := cell_kept kt2 hk34 hsb2; have kb4 := cell_kept kb2 hk34 hsb; have kf4 := frozen_kept kf2 (by omega) hk34 hsb2
    have q3 := hS4.blk.cell 3; have f3 := hS4.blk.frozen 3
    simp at q3
    have hk14 := hk13.trans hk34 (fun i _ e => .inl e)
    have hT4 := Lib.hid (hT.out.kept hk14 (fun e => by rcases e with e | e <;> first | omega | (have := (hrow _ e).1; omega)) (fun e => by rcases e with e | e <;> first | omega | (have := (hrow _ e).1; omega)))
    have hz4 := hk34.size
    replace hS4 := Lib.hid hS4; replace hk14 := Lib.hid hk14
    clear hk13 hk34 hk3 hS3'
    obtain ⟨P, hP⟩ : ∃ P : Int, Lib.lastIndexByte t 10 = P := ⟨_, rfl⟩
    have hPv : P = (fromAt t t.size : Int) - 1 := by rw [← hP]; exact last_from' t
    have hLst : ∀ W, Calls Tryd.prog 40 #[.string t, .int .u8 10] W fun e w' => e = .returned (.int .i64 P) ∧ W = w' := fun W => by
      rw [← hP]; exact (Tryd.strings_LastIndexByte t 10 (by omega) W).mono fun e w' ⟨h1, h2⟩ => ⟨h1, h2.symm⟩
    replace hLst := Lib.hid hLst; replace hP := Lib.hid hP
    replace hW4 := hW4
    by_cases hnl : nlAt t t.size = 0
    · have hf0 := fromAt_zero t _ hnl
      have hPn : ¬ (0 : Int) ≤ P := by omega
      go_wp2_with (go_at_call 40; refine (hLst.out _).mono ?_; rintro e w' ⟨rfl, rfl⟩)
      obtain ⟨V, hV⟩ : ∃ V, wid (t.data.toList.drop (fromAt t t.size)) = V := ⟨_, rfl⟩
      have hCe : (Y + (z : Int)) + V = C := by rw [← hC.out, ← hV]; unfold colAfter; rw [if_pos hnl]
      rw [hV] at hwid
      rw [List.length_drop, size_len] at hwid
      have hX : Calls Tryd.prog 26 #[.string t] W4.drew fun e w' => e = .returned (.int .i64 V) ∧ Below W4.heap.size W4 w' := by
        have := (width_Text t W4.drew (by omega) hT4.out).mono (fun e w' h => h)
        rw [hf0, List.drop_zero] at hV; rw [hV] at this
        exact this.mono fun e w' ⟨h1, h2⟩ => ⟨h1, h2.os, h2.tape, h2.output, h2.size, h2.block⟩
      have hwv : IntKind.i64.wrap ((Y + (z : Int)) + V) = (Y + (z : Int)) + V := IntWalk.i64_in _ (by omega)
      have hzw4 : w.heap.size + 2 ≤ W4.heap.size := by omega
      replace hX := Lib.hid hX; replace hV := Lib.hid hV; replace hCe := Lib.hid hCe
      go_region_with (go_at_call 26; refine hX.out.mono ?_; rintro e w7 ⟨rfl, hq⟩; have hq7 : Kept (fun _ => False) W4 w7 := Kept.of_below hq; replace kb4 := cell_kept kb4 hq7 id; replace kt4 := cell_kept kt4 hq7 id; have hS7 := hS4.out.below hq; replace q3 := hS7.blk.cell 3; replace f3 := hS7.blk.frozen 3; simp at q3)
      all_goals
        have hS8 := hS7.put3 ((Y + (z : Int)) + V)
        have hk8 := (hk14.out.then hq).setCell ⟨s, 3, none⟩ (.int .i64 ((Y + (z : Int)) + V)) (.inl rfl)
        go_wp2
        go_ret
        rw [← hCe.out]
        first | exact ⟨rfl, ⟨v2, hS8, hn12.out⟩, hk8⟩ | exact ⟨rfl, ⟨v2, hS8.drew, hn12.out⟩, hk8.drew⟩
    · have hf1 : 1 ≤ fromAt t t.size := fromAt_pos t _ hnl
      have hPp : (0 : Int) ≤ P := by omega
      have hw1 : IntKind.i64.wrap (P + 1) = (fromAt t t.size : Int) := by rw [hPv, Int.sub_add_cancel]; exact IntWalk.i64_in _ (by omega)
      have hsl1 : ((fromAt t t.size : Nat) : Int) ≤ t.size := by omega
      have q33 := q3
      have hS5 := hS4.out.put3 0
      have hk45 : Kept (fun i => i = s) W4 (W4.setCell ⟨s, 3, none⟩ (.int .i64 0)) := (Kept.refl (fun i => i = s) W4).setCell ⟨s, 3, none⟩ _ rfl
      have hzz5 := hk45.size
      obtain ⟨W5, hW5⟩ : ∃ W5, W4.setCell ⟨s, 3, none⟩ (.int .i64 0) = W5 := ⟨_, rfl⟩
      rw [hW5] at hS5 hk45 hzz5
      have kt5 := cell_kept kt4 hk45 hsb2; have kb5 := cell_kept kb4 hk45 hsb; have kf5 := frozen_kept kf4 (by omega) hk45 hsb2
      have hk56 : Kept (fun i => i = w.heap.size + 1) W5 (W5.setCell ⟨w.heap.size + 1, 0, none⟩ (.string (t.extract (fromAt t t.size) t.size))) := (Kept.refl (fun i => i = w.heap.size + 1) W5).setCell ⟨w.heap.size + 1, 0, none⟩ _ rfl
      have hzz6 := hk56.size
      obtain ⟨W6, hW6⟩ : ∃ W6, W5.setCell ⟨w.heap.size + 1, 0, none⟩ (.string (t.extract (fromAt t t.size) t.size)) = W6 := ⟨_, rfl⟩
      have kt6 : W6.cell? ⟨w.heap.size + 1, 0, none⟩ = some (.string (t.extract (fromAt t t.size) t.size)) := by rw [← hW6]; exact World.cell?_setCell_same _ _ _ kt5
      rw [hW6] at hk56 hzz6
      have kb6 := cell_kept kb5 hk56 (by omega)
      have hk16 := Lib.hid ((hk14.out.trans hk45 (fun i _ e => .inl e)).then' hk56 (by omega))
      have hS6 : S7 W6 s v2 L true x 0 0 := ⟨hS5.blk.kept hk56 (by omega), hS5.buf.kept hk56 (fun i hi e => by have := hS4.out.buf.lt i hi; have e : i = w.heap.size + 1 := e; rcases hnst i hi with h | h <;> first | omega | (have := (hrow i h).2; omega))⟩
      replace hS6 := Lib.hid hS6
      have q3 := hS6.out.blk.cell 3; have f3 := hS6.out.blk.frozen 3
      simp at q3
      have hT6 := Lib.hid (hT.out.kept hk16.out (fun e => by rcases e with e | e <;> first | omega | (have := (hrow _ e).1; omega)) (fun e => by rcases e with e | e <;> first | omega | (have := (hrow _ e).1; omega)))
      clear hS5 hk45 hk56
      go_wp2_with (go_at_call 40; refine (hLst.out _).mono ?_; rintro e w' ⟨rfl, rfl⟩)
      obtain ⟨V, hV⟩ : ∃ V, wid (t.data.toList.drop (fromAt t t.size)) = V := ⟨_, rfl⟩
      have hCe : V = C := by rw [← hC.out, ← hV]; unfold colAfter; rw [if_neg hnl]; simp
      rw [hV] at hwid
      rw [List.length_drop, size_len] at hwid
      have hX : Calls Tryd.prog 26 #[.string (t.extract (fromAt t t.size) t.size)] W6.drew fun e w' => e = .returned (.int .i64 V) ∧ Below W6.heap.size W6 w' := by
        have := (width_Text (t.extract (fromAt t t.size) t.size) W6.drew (by simp; omega) hT6.out).mono (fun e w' h => h)
        rw [extract_to_end, hV] at this
        exact this.mono fun e w' ⟨h1, h2⟩ => ⟨h1, h2.os, h2.tape, h2.output, h2.size, h2.block⟩
      have hwv : IntKind.i64.wrap (V) = V := IntWalk.i64_in _ (by omega)
      have hzw4 : w.heap.size + 2 ≤ W6.heap.size := by omega
      replace hX := Lib.hid hX; replace hV := Lib.hid hV; replace hCe := Lib.hid hCe
      go_region_with (go_at_call 26; refine hX.out.mono ?_; rintro e w7 ⟨rfl, hq⟩; have hq7 : Kept (fun _ => False) W6 w7 := Kept.of_below hq; replace kb6 := cell_kept kb6 hq7 id; replace kt6 := cell_kept kt6 hq7 id; have hS7 := hS6.out.below hq; replace q3 := hS7.blk.cell 3; replace f3 := hS7.blk.frozen 3; simp at q3)
      all_goals
        have hS8 := hS7.put3 (V)
        have hk8 := (hk16.out.then hq).setCell ⟨s, 3, none⟩ (.int .i64 (V)) (.inl rfl)
        go_wp2
        go_ret
        rw [← hCe.out]
        first | exact ⟨rfl, ⟨v2, hS8, hn12.out⟩, hk8⟩ | exact ⟨rfl, ⟨v2, hS8.drew, hn12.out⟩, hk8.drew⟩
  clear hS3 hk3
  go_region_with (fail)
  all_goals exact tail
end Go.Proofs.YtphcmbdmkhmfbaaDoor
