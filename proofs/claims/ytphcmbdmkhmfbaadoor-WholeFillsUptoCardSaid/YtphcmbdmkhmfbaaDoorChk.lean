/- A layout in memory; doc.Check and the reference's Form. No condition but what the slices hold. whole.may: whether a layout may be. No condition but what the slice holds. -/
import Derived.Test.YtphcmbdmkhmfbaaDoorDoc
namespace Go.Proofs.YtphcmbdmkhmfbaaDoor
open Go.RowKit Go.Lib
/-- The slice that begins at ao holds these pieces. -/
def Docs (w : World) (ao : Option Addr) (L : List DocV) : Prop := ∀ (i : Nat) (d : DocV), L[i]? = some d → ∃ b o, ao = some ⟨b, o, none⟩ ∧ w.cell? ⟨b, o + i * 5, none⟩ = some (.int .u8 d.k) ∧ w.cell? ⟨b, o + i * 5 + 1, none⟩ = some (.string d.t) ∧ w.cell? ⟨b, o + i * 5 + 2, none⟩ = some (.int .i64 d.b) ∧ w.cell? ⟨b, o + i * 5 + 3, none⟩ = some (.int .i64 d.n) ∧ w.cell? ⟨b, o + i * 5 + 4, none⟩ = some (.bool d.e)
theorem Docs.below {w w' : World} {ao : Option Addr} {L : List DocV} (h : Docs w ao L) (k : Below w.heap.size w w') : Docs w' ao L := fun i d hd => by
  obtain ⟨b, o, e, h0, h1, h2, h3, h4⟩ := h i d hd
  have g : ∀ j v, w.cell? ⟨b, j, none⟩ = some v → w'.cell? ⟨b, j, none⟩ = some v := fun j v hv => (k.cell (p := ⟨b, j, none⟩) (cell_lt hv)).trans hv
  exact ⟨b, o, e, g _ _ h0, g _ _ h1, g _ _ h2, g _ _ h3, g _ _ h4⟩
/-- How many blocks a piece opens. -/
def opens (d : DocV) : Int := if d.k = 6 then 1 else if d.k = 7 then -1 else 0
/-- The first piece that may not be; -1: all may be. -/
def formAt : List DocV → Nat → Int → Int
  | [], i, o => if 0 < o then i else -1
  | d :: r, i, o => if rightB d = false ∨ (d.k = 7 ∧ o = 0) then i else formAt r (i + 1) (o + opens d)
theorem formAt_ge : ∀ (L : List DocV) (i : Nat) (o : Int), formAt L i o = -1 ∨ (i : Int) ≤ formAt L i o
  | [], i, o => by unfold formAt; split <;> omega
  | d :: r, i, o => by
    unfold formAt
    split
    · exact .inr (by omega)
    · rcases formAt_ge r (i + 1) (o + opens d) with h | h
      · exact .inl h
      · exact .inr (by omega)
def chkE (x : Int) : Int := if x = -1 then 0 else 70
def chkI (x : Int) : Int := if x = -1 then 0 else x
set_option maxHeartbeats 1000000 in
set_option maxRecDepth 100000 in
theorem doc_Check (ao : Option Addr) (L : List DocV) (cap : Nat) (w : World) (hL : Docs w ao L) (hl : L.length ≤ 2097152) : Calls Tryd.prog 72 #[.slice ao L.length cap] w fun e w' => e = .returned (.tuple #[.int .i64 (chkE (formAt L 0 0)), .int .i64 (chkI (formAt L 0 0))]) ∧ Below w.heap.size w w' := by
  obtain ⟨X, hX⟩ : ∃ X, formAt L 0 0 = X := ⟨_, rfl⟩
  have hX0 := formAt_ge L 0 0
  rw [hX] at hX0 ⊢
  have hl' : ¬ (2097152 : Int) < L.length := by omega
  replace hL := Lib.hid hL; replace hX := Lib.hid hX; replace hX0 := Lib.hid hX0
  go_enter Tryd.func72, Tryd.ntmps72
  go_wp2_with fail
  go_loopw [4, 12] (fun ov iv W => ∃ (i : Nat) (o : Int), iv = .int .i64 i ∧ ov = .int .i64 o ∧ i ≤ L.length ∧ 0 ≤ o ∧ o ≤ i ∧ Hid (formAt (L.drop i) i o = X) ∧ Below w.heap.size w W) (fun _ iv _ => L.length - (RowKit.intOf iv).toNat)
  case atStart => exact ⟨0, 0, rfl, rfl, by omega, by omega, by omega, hX, Below.refl _ _⟩
  case round =>
    obtain ⟨i, o, rfl, rfl, hi, ho0, ho1, hF, hb⟩ := hrel
    replace hb := Lib.hid hb
    by_cases hlt : i < L.length
    · obtain ⟨d, hd⟩ : ∃ d, L[i]? = some d := ⟨_, List.getElem?_eq_getElem hlt⟩
      have hdr : L.drop i = d :: L.drop (i + 1) := by
        have := List.drop_eq_getElem_cons hlt
        rw [List.getElem?_eq_getElem hlt] at hd
        rw [this, Option.some.inj hd]
      rw [hdr, formAt] at hF
      obtain ⟨bl, of, rfl, c0, c1, c2, c3, c4⟩ := (hL.out.below hb.out) i d hd
      have hi1 : (i : Int) < L.length := by omega
      have hi2 : (0 : Int) ≤ i := by omega
      have wi : IntKind.i64.wrap ((i : Int) + 1) = i + 1 := IntWalk.i64_in _ (by omega)
      have hmeas : L.length - (RowKit.intOf (.int .i64 ((i : Int) + 1))).toNat < L.length - (RowKit.intOf (.int .i64 (i : Int))).toNat := by simp [RowKit.intOf]; omega
      have hr := doc_right d
      unfold DocV.agg at hr
      replace hd := Lib.hid hd; replace hdr := Lib.hid hdr
      have hbz := hb.out.size
      obtain ⟨W1, hW1⟩ : ∃ W1, wr.alloc (.cells #[.int .u8 d.k, .string d.t, .int .i64 d.b, .int .i64 d.n, .bool d.e] 47) = W1 := ⟨_, rfl⟩
      have hB1 : Blk W1 wr.heap.size #[.int .u8 d.k, .string d.t, .int .i64 d.b, .int .i64 d.n, .bool d.e] 47 := by rw [← hW1]; exact Blk.new _ _ _
      have hb1 := Lib.hid (show Below w.heap.size w W1 by rw [← hW1]; exact hb.out.alloc hbz _)
      have p0 := hB1.cell 0; have p1 := hB1.cell 1; have p2 := hB1.cell 2; have p3 := hB1.cell 3; have p4 := hB1.cell 4
      simp at p0 p1 p2 p3 p4
      have hz1 : wr.heap.size < W1.heap.size := hB1.lt
      cases hR : rightB d
      · rw [if_pos (.inl hR)] at hF
        have hXi := hF
        rw [hR] at hr
        replace hr := Lib.hid hr; replace hR := Lib.hid hR; clear hF
        go_wp2_with fail
        refine (hr.out _).mono ?_
        rintro e w1 ⟨rfl, b1⟩
        have hb2 := hb1.out.trans (b1.mono (by omega))
        go_wp2_with fail
        go_ret2
        rw [← hXi.out]
        refine ⟨?_, hb2⟩
        have h1 : ¬ (i : Int) = -1 := by omega
        simp [chkE, chkI, h1]
      · rw [hR] at hr
        by_cases k7 : d.k = 7
        · by_cases ho : o = 0
          · rw [if_pos (.inr ⟨k7, ho⟩)] at hF
            have hXi := hF
            have hk7 : ((d.k : Int) == 7) = true := by simp; omega
            replace hr := Lib.hid hr; replace hR := Lib.hid hR; clear hF; replace k7 := Lib.hid k7
            go_wp2_with fail
            refine (hr.out _).mono ?_
            rintro e w1 ⟨rfl, b1⟩
            have hb2 := hb1.out.trans (b1.mono (by omega))
            have r0 := (b1.cell (p := ⟨wr.heap.size, 0, none⟩) hz1).trans p0
            go_wp2_with fail
            go_ret2
            rw [← hXi.out]
            refine ⟨?_, hb2⟩
            have h1 : ¬ (i : Int) = -1 := by omega
            simp [chkE, chkI, h1]
          · have hw : IntKind.i64.wrap (o - 1) = o - 1 := IntWalk.i64_in _ (by omega)
            rw [if_neg (by rw [hR]; simp [ho])] at hF
            have hop : opens d = -1 := by simp [opens, k7]
            have hk7 : ((d.k : Int) == 7) = true := by simp; omega
            have hk6 : ((d.k : Int) == 6) = false := by simp; omega
            rw [hop] at hF
            replace hr := Lib.hid hr; replace hR := Lib.hid hR; replace hop := Lib.hid hop; replace k7 := Lib.hid k7
            go_wp2_with fail
            refine (hr.out _).mono ?_
            rintro e w1 ⟨rfl, b1⟩
            have hb2 := hb1.out.trans (b1.mono (by omega))
            have r0 := (b1.cell (p := ⟨wr.heap.size, 0, none⟩) hz1).trans p0
            go_wp2_with fail
            exact ⟨⟨i + 1, o - 1, by go_num, by first | rfl | (congr 1), by omega, by omega, by omega, hF, hb2⟩, hmeas⟩
        · rw [if_neg (by rw [hR]; simp [k7])] at hF
          by_cases k6 : d.k = 6
          · have hw : IntKind.i64.wrap (o + 1) = o + 1 := IntWalk.i64_in _ (by omega)
            have hop : opens d = 1 := by simp [opens, k6]
            have hk6 : ((d.k : Int) == 6) = true := by simp; omega
            have hk7 : ((d.k : Int) == 7) = false := by simp; omega
            rw [hop] at hF
            replace hr := Lib.hid hr; replace hR := Lib.hid hR; replace hop := Lib.hid hop; replace k6 := Lib.hid k6
            go_wp2_with fail
            refine (hr.out _).mono ?_
            rintro e w1 ⟨rfl, b1⟩
            have hb2 := hb1.out.trans (b1.mono (by omega))
            have r0 := (b1.cell (p := ⟨wr.heap.size, 0, none⟩) hz1).trans p0
            go_wp2_with fail
            exact ⟨⟨i + 1, o + 1, by go_num, by first | rfl | (congr 1), by omega, by omega, by omega, hF, hb2⟩, hmeas⟩
          · have hop : opens d = 0 := by simp [opens, k6, k7]
            rw [hop, Int.add_zero] at hF
            replace hr := Lib.hid hr; replace hR := Lib.hid hR; replace hop := Lib.hid hop
            have hk6 : ((d.k : Int) == 6) = false := by simp; omega
            have hk7 : ((d.k : Int) == 7) = false := by simp; omega
            go_wp2_with fail
            refine (hr.out _).mono ?_
            rintro e w1 ⟨rfl, b1⟩
            have hb2 := hb1.out.trans (b1.mono (by omega))
            have r0 := (b1.cell (p := ⟨wr.heap.size, 0, none⟩) hz1).trans p0
            go_wp2_with fail
            exact ⟨⟨i + 1, o, by go_num, rfl, by omega, by omega, by omega, hF, hb2⟩, hmeas⟩
    · have hi1 : ¬ (i : Int) < L.length := by omega
      have he : i = L.length := by omega
      subst he
      rw [List.drop_length, formAt] at hF
      by_cases ho : 0 < o
      · rw [if_pos ho] at hF
        go_wp2_with fail
        go_ret2
        rw [← hF.out]
        refine ⟨?_, hb.out⟩
        have h1 : ¬ ((L.length : Nat) : Int) = -1 := by omega
        simp [chkE, chkI, h1]
      · rw [if_neg ho] at hF
        go_wp2_with fail
        go_ret2
        rw [← hF.out]
        exact ⟨rfl, hb.out⟩
end Go.Proofs.YtphcmbdmkhmfbaaDoor
namespace Go.Proofs.YtphcmbdmkhmfbaaDoor
open Go.RowKit Go.Lib
def endD : DocV := ⟨7, ⟨#[]⟩, 0, 0, false⟩
def beginD : DocV := ⟨6, ⟨#[]⟩, 0, 0, false⟩
theorem docs_one {w : World} {g : Nat} (d : DocV) (h : Blk w g #[.int .u8 d.k, .string d.t, .int .i64 d.b, .int .i64 d.n, .bool d.e] 47) : Docs w (some ⟨g, 0, none⟩) [d] := fun i e he => by
  match i, he with
  | 0, he =>
    simp at he; subst he
    exact ⟨g, 0, rfl, by simpa using h.cell 0, by simpa using h.cell 1, by simpa using h.cell 2, by simpa using h.cell 3, by simpa using h.cell 4⟩
theorem docs_two {w : World} {g : Nat} (d c : DocV) (h : Blk w g #[.int .u8 d.k, .string d.t, .int .i64 d.b, .int .i64 d.n, .bool d.e, .int .u8 c.k, .string c.t, .int .i64 c.b, .int .i64 c.n, .bool c.e] 47) : Docs w (some ⟨g, 0, none⟩) [d, c] := fun i e he => by
  match i, he with
  | 0, he =>
    simp at he; subst he
    exact ⟨g, 0, rfl, by simpa using h.cell 0, by simpa using h.cell 1, by simpa using h.cell 2, by simpa using h.cell 3, by simpa using h.cell 4⟩
  | 1, he =>
    simp at he; subst he
    exact ⟨g, 0, rfl, by simpa using h.cell 5, by simpa using h.cell 6, by simpa using h.cell 7, by simpa using h.cell 8, by simpa using h.cell 9⟩
theorem chk_begin (d : DocV) (h : d.k = 6) : formAt [d, endD] 0 0 = if rightB d = false then 0 else -1 := by
  unfold formAt
  cases hR : rightB d
  · simp
  · simp [formAt, opens, h, endD, show rightB ⟨7, ⟨#[]⟩, 0, 0, false⟩ = true from rfl]
theorem chk_end (d : DocV) (h : d.k = 7) : formAt [beginD, d] 0 0 = if rightB d = false then 1 else -1 := by
  cases hR : rightB d <;> simp [formAt, opens, h, beginD, hR, show rightB ⟨6, ⟨#[]⟩, 0, 0, false⟩ = true from rfl]
theorem chk_else (d : DocV) (h6 : ¬ d.k = 6) (h7 : ¬ d.k = 7) : formAt [d] 0 0 = if rightB d = false then 0 else -1 := by
  cases hR : rightB d <;> simp [formAt, opens, h6, h7, hR]
set_option maxHeartbeats 1000000 in
set_option maxRecDepth 100000 in
theorem whole_may (ao : Option Addr) (L : List DocV) (cap : Nat) (w : World) (hL : Docs w ao L) (hl : L.length ≤ 2097152) : Calls Tryd.prog 51 #[.slice ao L.length cap] w fun e w' => e = .returned (.bool (decide (formAt L 0 0 = -1))) ∧ Below w.heap.size w w' := by
  obtain ⟨X, hX⟩ : ∃ X, formAt L 0 0 = X := ⟨_, rfl⟩
  rw [hX]
  replace hL := Lib.hid hL; replace hX := Lib.hid hX
  go_enter Tryd.func51, Tryd.ntmps51
  go_wp2_with fail
  go_loopw [3, 9] (fun ov iv W => ∃ (i : Nat) (o : Int), iv = .int .i64 i ∧ ov = .int .i64 o ∧ i ≤ L.length ∧ 0 ≤ o ∧ o ≤ i ∧ Hid (formAt (L.drop i) i o = X) ∧ Below w.heap.size w W) (fun _ iv _ => L.length - (RowKit.intOf iv).toNat)
  case atStart => exact ⟨0, 0, rfl, rfl, by omega, by omega, by omega, hX, Below.refl _ _⟩
  case round =>
    obtain ⟨i, o, rfl, rfl, hi, ho0, ho1, hF, hb⟩ := hrel
    replace hb := Lib.hid hb
    by_cases hlt : i < L.length
    · obtain ⟨d, hd⟩ : ∃ d, L[i]? = some d := ⟨_, List.getElem?_eq_getElem hlt⟩
      have hdr : L.drop i = d :: L.drop (i + 1) := by
        have := List.drop_eq_getElem_cons hlt
        rw [List.getElem?_eq_getElem hlt] at hd
        rw [this, Option.some.inj hd]
      rw [hdr, formAt] at hF
      obtain ⟨bl, of, rfl, c0, c1, c2, c3, c4⟩ := (hL.out.below hb.out) i d hd
      have hi1 : (i : Int) < L.length := by omega
      have hi2 : (0 : Int) ≤ i := by omega
      have wi : IntKind.i64.wrap ((i : Int) + 1) = i + 1 := IntWalk.i64_in _ (by omega)
      have hmeas : L.length - (RowKit.intOf (.int .i64 ((i : Int) + 1))).toNat < L.length - (RowKit.intOf (.int .i64 (i : Int))).toNat := by simp [RowKit.intOf]; omega
      have hXe : rightB d = false ∨ (d.k = 7 ∧ o = 0) → X = i := fun h => by have := hF.out; rw [if_pos h] at this; exact this.symm
      have hF2 : ¬ (rightB d = false ∨ (d.k = 7 ∧ o = 0)) → Hid (formAt (L.drop (i + 1)) (i + 1) (o + opens d) = X) := fun h => by have := hF.out; rw [if_neg h] at this; exact Lib.hid this
      replace hXe := Lib.hid hXe; replace hF2 := Lib.hid hF2; clear hF
      replace hd := Lib.hid hd; replace hdr := Lib.hid hdr
      have hbz := hb.out.size
      obtain ⟨W1, hW1⟩ : ∃ W1, wr.alloc (.cells #[.int .u8 d.k, .string d.t, .int .i64 d.b, .int .i64 d.n, .bool d.e] 47) = W1 := ⟨_, rfl⟩
      have hB1 : Blk W1 wr.heap.size #[.int .u8 d.k, .string d.t, .int .i64 d.b, .int .i64 d.n, .bool d.e] 47 := by rw [← hW1]; exact Blk.new _ _ _
      have hb1 := Lib.hid (show Below w.heap.size w W1 by rw [← hW1]; exact hb.out.alloc hbz _)
      have p0 := hB1.cell 0; have p1 := hB1.cell 1; have p2 := hB1.cell 2; have p3 := hB1.cell 3; have p4 := hB1.cell 4
      simp at p0 p1 p2 p3 p4
      have hz1 : wr.heap.size < W1.heap.size := hB1.lt
      by_cases k6 : d.k = 6
      · have hk6 : ((d.k : Int) == 6) = true := by simp; omega
        have hw : IntKind.i64.wrap (o + 1) = o + 1 := IntWalk.i64_in _ (by omega)
        have hop : opens d = 1 := by simp [opens, k6]
        have hch := chk_begin d k6
        have hn7 : ¬ d.k = 7 := by omega
        have hon : ¬ o + 1 < 0 := by omega
        replace k6 := Lib.hid k6; replace hop := Lib.hid hop; replace hch := Lib.hid hch
        have hc := doc_Check (some ⟨W1.heap.size, 0, none⟩) [d, endD] 2 (W1.alloc (.cells #[.int .u8 d.k, .string d.t, .int .i64 d.b, .int .i64 d.n, .bool d.e, .int .u8 7, .string ⟨#[]⟩, .int .i64 0, .int .i64 0, .bool false] 47)) (docs_two d endD (Blk.new _ _ _)) (by simp)
        have hb2 := Lib.hid (hb1.out.alloc hb1.out.size (.cells #[.int .u8 d.k, .string d.t, .int .i64 d.b, .int .i64 d.n, .bool d.e, .int .u8 7, .string ⟨#[]⟩, .int .i64 0, .int .i64 0, .bool false] 47))
        have hz2 := hb2.out.size
        rw [hch.out] at hc
        cases hR : rightB d
        · rw [if_pos hR] at hc
          have hXi := hXe.out (.inl hR)
          replace hc := Lib.hid hc; replace hR := Lib.hid hR; replace hXi := Lib.hid hXi
          go_wp2_with fail
          refine hc.out.mono ?_
          rintro e w1 ⟨rfl, b1⟩
          have e1 : chkE 0 = 70 := rfl
          rw [e1]
          have hb3 := hb2.out.trans (b1.mono hz2)
          go_wp2_with fail
          go_ret
          rw [hXi.out]
          have h1 : ¬ (i : Int) = -1 := by omega
          exact ⟨by simp [h1], hb3⟩
        · rw [if_neg (by rw [hR]; decide)] at hc
          have hF3 := hF2.out (by rw [hR]; simp [hn7])
          rw [hop.out] at hF3
          replace hc := Lib.hid hc; replace hR := Lib.hid hR
          go_wp2_with fail
          refine hc.out.mono ?_
          rintro e w1 ⟨rfl, b1⟩
          have e1 : chkE (-1) = 0 := rfl
          rw [e1]
          have hb3 := hb2.out.trans (b1.mono hz2)
          go_wp2_with fail
          exact ⟨⟨i + 1, o + 1, by go_num, by first | rfl | (congr 1), by omega, by omega, by omega, hF3, hb3⟩, hmeas⟩
      by_cases k7 : d.k = 7
      · have hk6 : ((d.k : Int) == 6) = false := by simp; omega
        have hk7 : ((d.k : Int) == 7) = true := by simp; omega
        have hw : IntKind.i64.wrap (o - 1) = o - 1 := IntWalk.i64_in _ (by omega)
        have hop : opens d = -1 := by simp [opens, k7]
        have hch := chk_end d k7
        have hop2 : o + opens d = o - 1 := by rw [hop]; omega
        replace hop := Lib.hid hop; replace hch := Lib.hid hch
        have hc := doc_Check (some ⟨W1.heap.size, 0, none⟩) [beginD, d] 2 (W1.alloc (.cells #[.int .u8 6, .string ⟨#[]⟩, .int .i64 0, .int .i64 0, .bool false, .int .u8 d.k, .string d.t, .int .i64 d.b, .int .i64 d.n, .bool d.e] 47)) (docs_two beginD d (Blk.new _ _ _)) (by simp)
        have hb2 := Lib.hid (hb1.out.alloc hb1.out.size (.cells #[.int .u8 6, .string ⟨#[]⟩, .int .i64 0, .int .i64 0, .bool false, .int .u8 d.k, .string d.t, .int .i64 d.b, .int .i64 d.n, .bool d.e] 47))
        have hz2 := hb2.out.size
        rw [hch.out] at hc
        cases hR : rightB d
        · rw [if_pos hR] at hc
          have hXi := hXe.out (.inl hR)
          replace hc := Lib.hid hc; replace k7 := Lib.hid k7; replace hop2 := Lib.hid hop2; replace hR := Lib.hid hR; replace hXi := Lib.hid hXi
          go_wp2_with fail
          refine hc.out.mono ?_
          rintro e w1 ⟨rfl, b1⟩
          have e1 : chkE 1 = 70 := rfl
          rw [e1]
          have hb3 := hb2.out.trans (b1.mono hz2)
          go_wp2_with fail
          go_ret
          rw [hXi.out]
          have h1 : ¬ (i : Int) = -1 := by omega
          exact ⟨by simp [h1], hb3⟩
        · by_cases ho : o = 0
          · have hXi := hXe.out (.inr ⟨k7, ho⟩)
            rw [if_neg (by rw [hR]; decide)] at hc
            have hon : o - 1 < 0 := by omega
            replace hc := Lib.hid hc; replace hR := Lib.hid hR; replace hXi := Lib.hid hXi; replace k7 := Lib.hid k7; replace ho := Lib.hid ho; replace hop2 := Lib.hid hop2
            go_wp2_with fail
            refine hc.out.mono ?_
            rintro e w1 ⟨rfl, b1⟩
            have e1 : chkE (-1) = 0 := rfl
            rw [e1]
            have hb3 := hb2.out.trans (b1.mono hz2)
            go_wp2_with fail
            go_ret
            rw [hXi.out]
            have h1 : ¬ (i : Int) = -1 := by omega
            exact ⟨by simp [h1], hb3⟩
          have hon : ¬ o - 1 < 0 := by omega
          have hF3 := hF2.out (by rw [hR]; simp [ho])
          rw [hop2] at hF3
          rw [if_neg (by rw [hR]; decide)] at hc
          replace hc := Lib.hid hc; replace hR := Lib.hid hR; replace k7 := Lib.hid k7; replace hop2 := Lib.hid hop2
          go_wp2_with fail
          refine hc.out.mono ?_
          rintro e w1 ⟨rfl, b1⟩
          have e1 : chkE (-1) = 0 := rfl
          rw [e1]
          have hb3 := hb2.out.trans (b1.mono hz2)
          go_wp2_with fail
          exact ⟨⟨i + 1, o - 1, by go_num, by first | rfl | (congr 1), by omega, by omega, by omega, hF3, hb3⟩, hmeas⟩
      have hk6 : ((d.k : Int) == 6) = false := by simp; omega
      have hk7 : ((d.k : Int) == 7) = false := by simp; omega
      have hop : opens d = 0 := by simp [opens, k6, k7]
      have hch := chk_else d k6 k7
      have hon : ¬ o < 0 := by omega
      replace hop := Lib.hid hop; replace hch := Lib.hid hch
      have hc := doc_Check (some ⟨W1.heap.size, 0, none⟩) [d] 1 (W1.alloc (.cells #[.int .u8 d.k, .string d.t, .int .i64 d.b, .int .i64 d.n, .bool d.e] 47)) (docs_one d (Blk.new _ _ _)) (by simp)
      have hb2 := Lib.hid (hb1.out.alloc hb1.out.size (.cells #[.int .u8 d.k, .string d.t, .int .i64 d.b, .int .i64 d.n, .bool d.e] 47))
      have hz2 := hb2.out.size
      rw [hch.out] at hc
      cases hR : rightB d
      · rw [if_pos hR] at hc
        have hXi := hXe.out (.inl hR)
        replace hc := Lib.hid hc; replace hR := Lib.hid hR; replace hXi := Lib.hid hXi
        go_wp2_with fail
        refine hc.out.mono ?_
        rintro e w1 ⟨rfl, b1⟩
        have e1 : chkE 0 = 70 := rfl
        rw [e1]
        have hb3 := hb2.out.trans (b1.mono hz2)
        go_wp2_with fail
        go_ret
        rw [hXi.out]
        have h1 : ¬ (i : Int) = -1 := by omega
        exact ⟨by simp [h1], hb3⟩
      · rw [if_neg (by rw [hR]; decide)] at hc
        have hF3 := hF2.out (by rw [hR]; simp [k7])
        rw [hop.out] at hF3
        replace hc := Lib.hid hc; replace hR := Lib.hid hR
        go_wp2_with fail
        refine hc.out.mono ?_
        rintro e w1 ⟨rfl, b1⟩
        have e1 : chkE (-1) = 0 := rfl
        rw [e1]
        have hb3 := hb2.out.trans (b1.mono hz2)
        go_wp2_with fail
        exact ⟨⟨i + 1, o, by go_num, by first | rfl | (congr 1), by omega, by omega, by omega, by rw [Int.add_zero] at hF3; exact hF3, hb3⟩, hmeas⟩
    · have hi1 : ¬ (i : Int) < L.length := by omega
      have he : i = L.length := by omega
      subst he
      rw [List.drop_length, formAt] at hF
      by_cases ho : 0 < o
      · rw [if_pos ho] at hF
        have ho2 : (o == 0) = false := by simp; omega
        go_wp2_with fail
        go_ret
        rw [← hF.out]
        have h1 : ¬ ((L.length : Nat) : Int) = -1 := by omega
        exact ⟨by simp [h1], hb.out⟩
      · rw [if_neg ho] at hF
        have ho2 : o = 0 := by omega
        subst ho2
        go_wp2_with fail
        go_ret
        rw [← hF.out]
        exact ⟨by simp, hb.out⟩
end Go.Proofs.YtphcmbdmkhmfbaaDoor
