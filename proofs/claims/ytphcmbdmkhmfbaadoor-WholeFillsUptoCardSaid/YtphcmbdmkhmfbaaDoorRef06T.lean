/- The reference's sink: Feed, Empty, Text. -/
import Derived.Test.YtphcmbdmkhmfbaaDoorRef06M
import Derived.Laws.Closers25
import Derived.Lib.IndexBytes
namespace Go.Proofs.YtphcmbdmkhmfbaaDoor
open Go.RowKit Go.Lib

set_option maxHeartbeats 4000000 in
set_option maxRecDepth 100000 in
theorem r6_Feed (b : Nat) (v : Value) (l : List UInt8) (f : Bool) (x y z : Int) (n : Int) (w : World) (h : S6 w b v l f x y z) (hl : l.length ≤ 1099511627776) :
    Calls Tryd.prog 45 #[.pointer (some ⟨b, 0, none⟩), .int .i64 n] w fun e w' => (0 ≤ n ∧ n ≤ 1048576 → e = .returned (.int .i64 0) ∧ ∃ v', S6 w' b v' (l ++ [10]) true n y 0 ∧ Next w v v') ∧ (¬ (0 ≤ n ∧ n ≤ 1048576) → e = .returned (.int .i64 1) ∧ S6 w' b v l f x y z) ∧ Kept (Own b v) w w' := by
  have q0 := h.blk.cell 0; have q1 := h.blk.cell 1; have q2 := h.blk.cell 2; have q3 := h.blk.cell 3; have q4 := h.blk.cell 4
  have f0 := h.blk.frozen 0; have f1 := h.blk.frozen 1; have f2 := h.blk.frozen 2; have f4 := h.blk.frozen 4
  simp at q0 q1 q2 q3 q4
  have hS := Lib.hid h
  have hbl := h.blk.lt
  clear h
  by_cases h1 : n < 0
  · go_enter Tryd.func45, Tryd.ntmps45
    go_wp2
    go_ret
    first | exact ⟨fun hh => by omega, fun _ => ⟨rfl, hS.out⟩, Kept.refl _ _⟩ | exact ⟨⟨rfl, hS.out⟩, Kept.refl _ _⟩ | exact ⟨fun hh => by omega, ⟨rfl, hS.out⟩, Kept.refl _ _⟩
  by_cases h2 : 1048576 < n
  · go_enter Tryd.func45, Tryd.ntmps45
    go_wp2
    go_ret
    first | exact ⟨fun hh => by omega, fun _ => ⟨rfl, hS.out⟩, Kept.refl _ _⟩ | exact ⟨⟨rfl, hS.out⟩, Kept.refl _ _⟩ | exact ⟨fun hh => by omega, ⟨rfl, hS.out⟩, Kept.refl _ _⟩
  go_enter Tryd.func45, Tryd.ntmps45
  go_wp2_with (at_builtin; refine app_byte_at rfl _ _ rfl (b + 1) rfl 10 (hS.out.buf.alloc _) ⟨w.heap.size, 0, none⟩ 1 rfl (by simp) (by omega) (by simp; omega) ?_; intro v' w2 hv' hg' hx'; obtain ⟨va, vn, vc, rfl⟩ := hv'.sh; have hb2 := (hS.out.alloc _).grown hg'; have hs3 := Lib.hid (Snk.store hb2 hv'); have hk3 := Lib.hid ((((Kept.refl (Own b v) w).alloc _).row (Next.refl _ _) hg').setCell ⟨b, 0, none⟩ (.slice va vn vc) (.inl rfl)); have hx3 := Lib.hid ((Next.refl w v).trans (by simp) hx'); replace q0 := hb2.cell 0; replace q1 := hb2.cell 1; replace q2 := hb2.cell 2; replace q4 := hb2.cell 4; replace f0 := hb2.frozen 0; replace f1 := hb2.frozen 1; replace f2 := hb2.frozen 2; replace f4 := hb2.frozen 4; simp at q0 q1 q2 q4)
  go_ret
  have hs4 := ((hs3.out.put1 true).put2 n).put4 0
  have hk4 := ((hk3.out.setCell ⟨b, 1, none⟩ (.bool true) (.inl rfl)).setCell ⟨b, 2, none⟩ (.int .i64 n) (.inl rfl)).setCell ⟨b, 4, none⟩ (.int .i64 0) (.inl rfl)
  first | exact ⟨⟨rfl, _, hs4, hx3.out⟩, hk4⟩ | exact ⟨fun _ => ⟨rfl, _, hs4, hx3.out⟩, fun hh => by omega, hk4⟩

set_option maxHeartbeats 4000000 in
set_option maxRecDepth 100000 in
theorem r6_Empty (b : Nat) (v : Value) (l : List UInt8) (f : Bool) (x y z : Int) (w : World) (h : S6 w b v l f x y z) (hl : l.length ≤ 1099511627776) (hx : 0 ≤ x ∧ x ≤ 1048576) :
    Calls Tryd.prog 46 #[.pointer (some ⟨b, 0, none⟩)] w fun e w' => e = .returned (.int .i64 0) ∧ (f = true → ∃ v', S6 w' b v' (l ++ [10]) true x y 0 ∧ Next w v v') ∧ (f = false → S6 w' b v l f x y z) ∧ Kept (Own b v) w w' := by
  have q0 := h.blk.cell 0; have q1 := h.blk.cell 1; have q2 := h.blk.cell 2
  simp at q0 q1 q2
  have hS := Lib.hid h
  clear h
  cases f
  · go_enter Tryd.func46, Tryd.ntmps46
    go_wp2
    go_ret
    first | exact ⟨rfl, hS.out, Kept.refl _ _⟩ | exact ⟨rfl, (fun hh => absurd hh (by decide)), (fun _ => hS.out), Kept.refl _ _⟩
  · go_enter Tryd.func46, Tryd.ntmps46
    go_wp2_with fail
    refine (r6_Feed b v l true x y z x _ hS.out hl).mono ?_
    rintro e w' ⟨hin, _, hk⟩
    obtain ⟨rfl, v', hs', hn'⟩ := hin hx
    replace hs' := Lib.hid hs'; replace hn' := Lib.hid hn'; replace hk := Lib.hid hk
    clear hin
    go_wp2
    go_ret
    first | exact ⟨rfl, ⟨v', hs'.out, hn'.out⟩, hk.out⟩ | exact ⟨rfl, (fun _ => ⟨v', hs'.out, hn'.out⟩), (fun hh => absurd hh (by decide)), hk.out⟩
/-- The column behind a text: from c on, where it has no line feed. -/
def colAfter (t : ByteArray) (c : Int) : Int := (if nlAt t t.size = 0 then c else 0) + wid (t.data.toList.drop (fromAt t t.size))
def padOf (f : Bool) (x : Nat) : List UInt8 := if f then List.replicate x 32 else []
set_option maxHeartbeats 4000000 in
set_option maxRecDepth 100000 in
theorem r6_Text (b : Nat) (v : Value) (l : List UInt8) (f : Bool) (x y z : Nat) (t : ByteArray) (w : World) (h : S6 w b v l f x y z) (ht : t.size ≠ 0) (hl : l.length + x + z + t.size ≤ 1099511627776) (hy : y ≤ 1099511627776) :
    Calls Tryd.prog 43 #[.pointer (some ⟨b, 0, none⟩), .string t] w fun e w' => e = .returned (.int .i64 0) ∧ (∃ v', S6 w' b v' (l ++ padOf f x ++ List.replicate z 32 ++ t.data.toList) false x (colAfter t ((if f then (x : Int) else y) + z)) 0 ∧ Next w v v') ∧ Kept (Own b v) w w' := by
  have q0 := h.blk.cell 0; have q1 := h.blk.cell 1; have q2 := h.blk.cell 2; have q3 := h.blk.cell 3; have q4 := h.blk.cell 4
  have f0 := h.blk.frozen 0; have f1 := h.blk.frozen 1; have f2 := h.blk.frozen 2; have f3 := h.blk.frozen 3; have f4 := h.blk.frozen 4
  simp at q0 q1 q2 q3 q4
  have hS := Lib.hid h
  have hbl := h.blk.lt
  clear h
  have hte : t.toList.isEmpty = false := by rw [← decide_eq_emptyBytes]; simp; intro e; subst e; exact ht rfl
  obtain ⟨L, hL⟩ : ∃ L, l ++ padOf f x ++ List.replicate z 32 ++ t.data.toList = L := ⟨_, rfl⟩
  obtain ⟨C, hC⟩ : ∃ c, colAfter t ((if f then (x : Int) else y) + z) = c := ⟨_, rfl⟩
  rw [hL, hC]
  have hwid := wid_le (t.data.toList.drop (fromAt t t.size))
  have hfr := fromAt_le t t.size
  replace hL := Lib.hid hL; replace hC := Lib.hid hC
  cases f
  · go_enter Tryd.func43, Tryd.ntmps43
    go_wp2_with fail
    refine (r6_blanks b v l false x y z z _ hS.out (by omega)).mono ?_
    rintro e w2 ⟨rfl, v2, hS2, hk2, hn2⟩
    replace hS2 := Lib.hid hS2; replace hk2 := Lib.hid hk2; replace hn2 := Lib.hid hn2
    have hw : IntKind.i64.wrap ((y : Int) + z) = y + z := IntWalk.i64_in _ (by omega)
    replace q0 := hS2.out.blk.cell 0; replace q1 := hS2.out.blk.cell 1; replace q2 := hS2.out.blk.cell 2; replace q3 := hS2.out.blk.cell 3; replace q4 := hS2.out.blk.cell 4
    replace f0 := hS2.out.blk.frozen 0; replace f1 := hS2.out.blk.frozen 1; replace f2 := hS2.out.blk.frozen 2; replace f3 := hS2.out.blk.frozen 3; replace f4 := hS2.out.blk.frozen 4
    simp at q0 q1 q2 q3 q4
    go_wp2_with fail
    go_region_with (fail)
    all_goals
      have hS3 := Lib.hid (hS2.out.put3 ((y : Int) + z)).drew
      have hk3 := Lib.hid (hk2.out.setCell ⟨b, 3, none⟩ (.int .i64 ((y : Int) + z)) (.inl rfl)).drew
      have hbs3 : w2.heap.size = (w2.setCell ⟨b, 3, none⟩ (.int .i64 ((y : Int) + z))).drew.heap.size := by simp [World.setCell]
      obtain ⟨W3, hW3⟩ : ∃ W3, (w2.setCell ⟨b, 3, none⟩ (.int .i64 ((y : Int) + z))).drew = W3 := ⟨_, rfl⟩
      rw [hW3] at hS3 hk3 hbs3 ⊢
      clear hW3
      replace q0 := hS3.out.blk.cell 0; replace q1 := hS3.out.blk.cell 1; replace q2 := hS3.out.blk.cell 2; replace q3 := hS3.out.blk.cell 3; replace q4 := hS3.out.blk.cell 4
      replace f0 := hS3.out.blk.frozen 0; replace f1 := hS3.out.blk.frozen 1; replace f2 := hS3.out.blk.frozen 2; replace f3 := hS3.out.blk.frozen 3; replace f4 := hS3.out.blk.frozen 4
      simp at q0 q1 q2 q3 q4
      have hS4 := Lib.hid (hS3.out.put4 0)
      have hk4 := Lib.hid (hk3.out.setCell ⟨b, 4, none⟩ (.int .i64 0) (.inl rfl))
      have hz2 := hk2.out.size
      have hbs4 : W3.heap.size = (W3.setCell ⟨b, 4, none⟩ (.int .i64 0)).heap.size := by simp [World.setCell]
      go_wp2_with (at_builtin; refine app_str_at rfl _ _ rfl (b + 1) rfl t hS4.out.buf rfl (by simp; omega) (by omega) ?_; intro v' w5 hv' hg' hx'; obtain ⟨va, vn, vc, rfl⟩ := hv'.sh; have hb5 := hS4.out.grown hg'; have hS5 := Lib.hid (Snk.store hb5 hv'); have hk5 := Lib.hid ((hk4.out.row hn2.out hg').setCell ⟨b, 0, none⟩ (.slice va vn vc) (.inl rfl)); have hn5 := Lib.hid (hn2.out.trans (by omega) hx'); replace q0 := hb5.cell 0; replace q3 := hb5.cell 3; replace f0 := hb5.frozen 0; simp at q0 q3)
      go_loopw [5, 6] (fun fv iv W => ∃ (i : Nat) (u : Value), iv = .int .i64 i ∧ fv = .int .i64 (fromAt t i) ∧ i ≤ t.size ∧ S6 W b u L false x (if nlAt t i = 0 then ((y : Int) + z) else 0) 0 ∧ Kept (Own b v) w W ∧ Next w v u) (fun _ iv _ => t.size - (RowKit.intOf iv).toNat)
      case atStart => exact ⟨0, _, rfl, rfl, by omega, by have := hS5.out; simp only [nlAt]; rw [← hL.out]; simpa [padOf] using this, hk5.out, hn5.out⟩
      case round =>
        obtain ⟨i, u, rfl, rfl, hi, hS6, hk6, hn6⟩ := hrel
        clear hS5 hk5 hn5 hS4 hk4 hS3 hk3
        have hS6 := Lib.hid hS6
        replace q0 := hS6.out.blk.cell 0; replace q3 := hS6.out.blk.cell 3; replace f3 := hS6.out.blk.frozen 3
        simp at q0 q3
        by_cases hlt : i < t.size
        · have w1 : IntKind.i64.wrap ((i : Int) + 1) = i + 1 := IntWalk.i64_in _ (by omega)
          have hb1 := byteAt_lt t i
          by_cases h10 : byteAt t i = 10
          · have hf : ((byteAt t i : Int) == 10) = true := by simp; omega
            have e1 : nlAt t (i + 1) ≠ 0 := by rw [nlAt, if_pos h10]; omega
            have e2 : fromAt t (i + 1) = i + 1 := by rw [fromAt, if_pos h10]
            replace h10 := Lib.hid h10; replace e1 := Lib.hid e1; replace e2 := Lib.hid e2
            have hS7 := Lib.hid (hS6.out.put3 0)
            have hk7 := hk6.setCell ⟨b, 3, none⟩ (.int .i64 0) (.inl rfl)
            go_wp2
            go_roundw
            case rel => exact ⟨i + 1, u, by go_num, by rw [e2.out]; go_num, by omega, by rw [if_neg e1.out]; exact hS7.out, hk7, hn6⟩
            case measure => simp [RowKit.intOf]; omega
          · have hf : ((byteAt t i : Int) == 10) = false := by simp; omega
            have e1 : nlAt t (i + 1) = nlAt t i := by rw [nlAt, if_neg h10]
            have e2 : fromAt t (i + 1) = fromAt t i := by rw [fromAt, if_neg h10]
            replace h10 := Lib.hid h10; replace e1 := Lib.hid e1; replace e2 := Lib.hid e2
            go_wp2
            go_roundw
            case rel => exact ⟨i + 1, u, by go_num, by rw [e2.out], by omega, by rw [e1.out]; exact hS6.out, hk6, hn6⟩
            case measure => simp [RowKit.intOf]; omega
        · have e : i = t.size := by omega
          subst e
          have hsl1 : ((fromAt t t.size : Nat) : Int) ≤ t.size := by omega
          obtain ⟨V, hV⟩ : ∃ V, wid (t.data.toList.drop (fromAt t t.size)) = V := ⟨_, rfl⟩
          obtain ⟨c0, hc0⟩ : ∃ c, (if nlAt t t.size = 0 then ((y : Int) + z) else 0) = c := ⟨_, rfl⟩
          have hCe : c0 + V = C := by rw [← hC.out, ← hV, ← hc0]; unfold colAfter; simp
          have hc0b : 0 ≤ c0 ∧ c0 ≤ (y : Int) + z := by rw [← hc0]; split <;> omega
          have hTx : ∀ W, Calls Tryd.prog 71 #[.string (t.extract (fromAt t t.size) t.size)] W fun e w' => e = .returned (.int .i64 V) ∧ Below W.heap.size W w' := fun W => by
            have := r2_Text (t.extract (fromAt t t.size) t.size) W (by simp; omega)
            rwa [extract_to_end, hV] at this
          rw [hV] at hwid
          rw [hc0] at hS6 q3
          rw [List.length_drop, size_len] at hwid
          have hwv : IntKind.i64.wrap (c0 + V) = c0 + V := IntWalk.i64_in _ (by omega)
          replace hTx := Lib.hid hTx; replace hV := Lib.hid hV; replace hc0 := Lib.hid hc0
          go_wp2_with fail
          go_region_with (first | (go_at_call 71; refine (hTx.out _).mono ?_; rintro e w7 ⟨rfl, hq⟩; replace hS6 := Lib.hid (by first | exact hS6.out.below hq | exact hS6.out.drew.below hq); replace hk6 := (by first | exact hk6.then hq | exact hk6.drew.then hq); replace q3 := hS6.out.blk.cell 3; replace f3 := hS6.out.blk.frozen 3; simp at q3; clear hq))
          all_goals
            have hS8 := hS6.out.put3 (c0 + V)
            have hk8 := hk6.setCell ⟨b, 3, none⟩ (.int .i64 (c0 + V)) (.inl rfl)
            go_wp2
            go_ret
            rw [← hCe]
            (try rw [hwv])
            first | exact ⟨rfl, ⟨u, hS8, hn6⟩, hk8⟩ | exact ⟨rfl, ⟨u, hS8.drew, hn6⟩, hk8.drew⟩
  · go_enter Tryd.func43, Tryd.ntmps43
    go_wp2_with fail
    refine (r6_blanks b v l true x y z x _ hS.out (by omega)).mono ?_
    rintro e w1 ⟨rfl, v1, hS1, hk1, hn1⟩
    replace hS1 := Lib.hid hS1; replace hk1 := Lib.hid hk1; replace hn1 := Lib.hid hn1
    replace q0 := hS1.out.blk.cell 0; replace q1 := hS1.out.blk.cell 1; replace q2 := hS1.out.blk.cell 2; replace q3 := hS1.out.blk.cell 3; replace q4 := hS1.out.blk.cell 4
    replace f0 := hS1.out.blk.frozen 0; replace f1 := hS1.out.blk.frozen 1; replace f2 := hS1.out.blk.frozen 2; replace f3 := hS1.out.blk.frozen 3; replace f4 := hS1.out.blk.frozen 4
    simp at q0 q1 q2 q3 q4
    have hS1b := Lib.hid ((hS1.out.put3 (x : Int)).put1 false)
    have hk1b := Lib.hid ((hk1.out.setCell ⟨b, 3, none⟩ (.int .i64 (x : Int)) (.inl rfl)).setCell ⟨b, 1, none⟩ (.bool false) (.inl rfl))
    go_wp2_with fail
    refine (r6_blanks b v1 (l ++ List.replicate x 32) false x x z z _ hS1b.out (by simp; omega)).mono ?_
    rintro e w2 ⟨rfl, v2, hS2, hk2, hn2⟩
    replace hn2 := hn1.out.trans hk1b.out.size hn2
    replace hk2 := hk1b.out.trans hk2 (fun i hi ho => by rcases ho with rfl | ho; exact .inl rfl; rcases hn1.out i ho with h5 | h5; exact .inr h5; omega)
    clear hS1 hk1 hn1 hS1b hk1b
    replace hS2 := Lib.hid hS2; replace hk2 := Lib.hid hk2; replace hn2 := Lib.hid hn2
    have hw : IntKind.i64.wrap ((x : Int) + z) = x + z := IntWalk.i64_in _ (by omega)
    replace q0 := hS2.out.blk.cell 0; replace q1 := hS2.out.blk.cell 1; replace q2 := hS2.out.blk.cell 2; replace q3 := hS2.out.blk.cell 3; replace q4 := hS2.out.blk.cell 4
    replace f0 := hS2.out.blk.frozen 0; replace f1 := hS2.out.blk.frozen 1; replace f2 := hS2.out.blk.frozen 2; replace f3 := hS2.out.blk.frozen 3; replace f4 := hS2.out.blk.frozen 4
    simp at q0 q1 q2 q3 q4
    go_wp2_with fail
    go_region_with (fail)
    all_goals
      have hS3 := Lib.hid (hS2.out.put3 ((x : Int) + z)).drew
      have hk3 := Lib.hid (hk2.out.setCell ⟨b, 3, none⟩ (.int .i64 ((x : Int) + z)) (.inl rfl)).drew
      have hbs3 : w2.heap.size = (w2.setCell ⟨b, 3, none⟩ (.int .i64 ((x : Int) + z))).drew.heap.size := by simp [World.setCell]
      obtain ⟨W3, hW3⟩ : ∃ W3, (w2.setCell ⟨b, 3, none⟩ (.int .i64 ((x : Int) + z))).drew = W3 := ⟨_, rfl⟩
      rw [hW3] at hS3 hk3 hbs3 ⊢
      clear hW3
      replace q0 := hS3.out.blk.cell 0; replace q1 := hS3.out.blk.cell 1; replace q2 := hS3.out.blk.cell 2; replace q3 := hS3.out.blk.cell 3; replace q4 := hS3.out.blk.cell 4
      replace f0 := hS3.out.blk.frozen 0; replace f1 := hS3.out.blk.frozen 1; replace f2 := hS3.out.blk.frozen 2; replace f3 := hS3.out.blk.frozen 3; replace f4 := hS3.out.blk.frozen 4
      simp at q0 q1 q2 q3 q4
      have hS4 := Lib.hid (hS3.out.put4 0)
      have hk4 := Lib.hid (hk3.out.setCell ⟨b, 4, none⟩ (.int .i64 0) (.inl rfl))
      have hz2 := hk2.out.size
      have hbs4 : W3.heap.size = (W3.setCell ⟨b, 4, none⟩ (.int .i64 0)).heap.size := by simp [World.setCell]
      go_wp2_with (at_builtin; refine app_str_at rfl _ _ rfl (b + 1) rfl t hS4.out.buf rfl (by simp; omega) (by omega) ?_; intro v' w5 hv' hg' hx'; obtain ⟨va, vn, vc, rfl⟩ := hv'.sh; have hb5 := hS4.out.grown hg'; have hS5 := Lib.hid (Snk.store hb5 hv'); have hk5 := Lib.hid ((hk4.out.row hn2.out hg').setCell ⟨b, 0, none⟩ (.slice va vn vc) (.inl rfl)); have hn5 := Lib.hid (hn2.out.trans (by omega) hx'); replace q0 := hb5.cell 0; replace q3 := hb5.cell 3; replace f0 := hb5.frozen 0; simp at q0 q3)
      go_loopw [5, 6] (fun fv iv W => ∃ (i : Nat) (u : Value), iv = .int .i64 i ∧ fv = .int .i64 (fromAt t i) ∧ i ≤ t.size ∧ S6 W b u L false x (if nlAt t i = 0 then ((x : Int) + z) else 0) 0 ∧ Kept (Own b v) w W ∧ Next w v u) (fun _ iv _ => t.size - (RowKit.intOf iv).toNat)
      case atStart => exact ⟨0, _, rfl, rfl, by omega, by have := hS5.out; simp only [nlAt]; rw [← hL.out]; simpa [padOf] using this, hk5.out, hn5.out⟩
      case round =>
        obtain ⟨i, u, rfl, rfl, hi, hS6, hk6, hn6⟩ := hrel
        clear hS5 hk5 hn5 hS4 hk4 hS3 hk3
        have hS6 := Lib.hid hS6
        replace q0 := hS6.out.blk.cell 0; replace q3 := hS6.out.blk.cell 3; replace f3 := hS6.out.blk.frozen 3
        simp at q0 q3
        by_cases hlt : i < t.size
        · have w1 : IntKind.i64.wrap ((i : Int) + 1) = i + 1 := IntWalk.i64_in _ (by omega)
          have hb1 := byteAt_lt t i
          by_cases h10 : byteAt t i = 10
          · have hf : ((byteAt t i : Int) == 10) = true := by simp; omega
            have e1 : nlAt t (i + 1) ≠ 0 := by rw [nlAt, if_pos h10]; omega
            have e2 : fromAt t (i + 1) = i + 1 := by rw [fromAt, if_pos h10]
            replace h10 := Lib.hid h10; replace e1 := Lib.hid e1; replace e2 := Lib.hid e2
            have hS7 := Lib.hid (hS6.out.put3 0)
            have hk7 := hk6.setCell ⟨b, 3, none⟩ (.int .i64 0) (.inl rfl)
            go_wp2
            go_roundw
            case rel => exact ⟨i + 1, u, by go_num, by rw [e2.out]; go_num, by omega, by rw [if_neg e1.out]; exact hS7.out, hk7, hn6⟩
            case measure => simp [RowKit.intOf]; omega
          · have hf : ((byteAt t i : Int) == 10) = false := by simp; omega
            have e1 : nlAt t (i + 1) = nlAt t i := by rw [nlAt, if_neg h10]
            have e2 : fromAt t (i + 1) = fromAt t i := by rw [fromAt, if_neg h10]
            replace h10 := Lib.hid h10; replace e1 := Lib.hid e1; replace e2 := Lib.hid e2
            go_wp2
            go_roundw
            case rel => exact ⟨i + 1, u, by go_num, by rw [e2.out], by omega, by rw [e1.out]; exact hS6.out, hk6, hn6⟩
            case measure => simp [RowKit.intOf]; omega
        · have e : i = t.size := by omega
          subst e
          have hsl1 : ((fromAt t t.size : Nat) : Int) ≤ t.size := by omega
          obtain ⟨V, hV⟩ : ∃ V, wid (t.data.toList.drop (fromAt t t.size)) = V := ⟨_, rfl⟩
          obtain ⟨c0, hc0⟩ : ∃ c, (if nlAt t t.size = 0 then ((x : Int) + z) else 0) = c := ⟨_, rfl⟩
          have hCe : c0 + V = C := by rw [← hC.out, ← hV, ← hc0]; unfold colAfter; simp
          have hc0b : 0 ≤ c0 ∧ c0 ≤ (x : Int) + z := by rw [← hc0]; split <;> omega
          have hTx : ∀ W, Calls Tryd.prog 71 #[.string (t.extract (fromAt t t.size) t.size)] W fun e w' => e = .returned (.int .i64 V) ∧ Below W.heap.size W w' := fun W => by
            have := r2_Text (t.extract (fromAt t t.size) t.size) W (by simp; omega)
            rwa [extract_to_end, hV] at this
          rw [hV] at hwid
          rw [hc0] at hS6 q3
          rw [List.length_drop, size_len] at hwid
          have hwv : IntKind.i64.wrap (c0 + V) = c0 + V := IntWalk.i64_in _ (by omega)
          replace hTx := Lib.hid hTx; replace hV := Lib.hid hV; replace hc0 := Lib.hid hc0
          go_wp2_with fail
          go_region_with (first | (go_at_call 71; refine (hTx.out _).mono ?_; rintro e w7 ⟨rfl, hq⟩; replace hS6 := Lib.hid (by first | exact hS6.out.below hq | exact hS6.out.drew.below hq); replace hk6 := (by first | exact hk6.then hq | exact hk6.drew.then hq); replace q3 := hS6.out.blk.cell 3; replace f3 := hS6.out.blk.frozen 3; simp at q3; clear hq))
          all_goals
            have hS8 := hS6.out.put3 (c0 + V)
            have hk8 := hk6.setCell ⟨b, 3, none⟩ (.int .i64 (c0 + V)) (.inl rfl)
            go_wp2
            go_ret
            rw [← hCe]
            (try rw [hwv])
            first | exact ⟨rfl, ⟨u, hS8, hn6⟩, hk8⟩ | exact ⟨rfl, ⟨u, hS8.drew, hn6⟩, hk8.drew⟩
end Go.Proofs.YtphcmbdmkhmfbaaDoor
