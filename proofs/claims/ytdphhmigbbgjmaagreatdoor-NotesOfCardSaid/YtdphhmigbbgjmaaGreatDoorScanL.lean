/- scan.named, scan.numbered, scan.quoted, scan.comment: each jumps back to its label. -/
import Derived.Test.YtdphhmigbbgjmaaGreatDoorM3
import Derived.WalkMore
import Derived.ScopeJumps
namespace Go.Proofs.YtdphhmigbbgjmaaGreatDoor
open Go.RowKit Go.Lib
attribute [local go_sem] byteAt_get wrap64_byteAt
set_option linter.unusedVariables false
set_option linter.unusedSimpArgs false
theorem wp_scope_jumps1 {P : Program} {a : Act} {w : World} {Q : Exit → Act → World → Prop} {c y : Code} (l : Nat) (J : Act → World → Prop) (μ : Act → World → Nat) (hf : findLabel c l = some (.seq .skip y))
    (pass : ∀ a w, J a w → y.wp P (Exit.jump l (fun a' w' => J a' w' ∧ μ a' w' < μ a w) Q) a w)
    (first : (∀ a w, J a w → y.wp P (Exit.jump l J Q) a w) → c.wp P (Exit.jump l J Q) a w) : (Code.scope c).wp P Q a w :=
  wp_scope_jumps l J μ hf (first fun a w h => Code.wp_mono (fun e a' w' h' => by
    cases e with
    | goto l' => exact ⟨h'.1, h'.2.1⟩
    | normal => exact h'
    | exit _ => exact h'
    | ret => exact h'
    | panic _ => exact h'
    | outgrown => exact h') (pass a w h)) (fun a w h => wp_seq (wp_skip (pass a w h)))
def pOf (s : ByteArray) (e : Nat) : Int := (nxT s e).1
def nOf (s : ByteArray) (e : Nat) : Nat := (nxT s e).2.1.toNat
def gOf (s : ByteArray) (e : Nat) : Bool := (nxT s e).2.2
theorem nOf_bd (s : ByteArray) (e : Nat) (h : e < s.size) : 1 ≤ nOf s e ∧ nOf s e ≤ 4 ∧ e + nOf s e ≤ s.size := by
  have := nxT_bd s e; unfold nOf; omega
theorem nOf_end (s : ByteArray) (e : Nat) (h : s.size ≤ e) : nOf s e = 0 ∧ pOf s e = 0 ∧ gOf s e = false := by
  unfold nOf pOf gOf nxT; rw [if_neg (by omega)]; exact ⟨rfl, rfl, rfl⟩
theorem pOf_bd (s : ByteArray) (e : Nat) : 0 ≤ pOf s e ∧ pOf s e ≤ 1114111 := by have := nxT_bd s e; exact ⟨this.1, this.2.1⟩
theorem scan_next' (s : ByteArray) (e : Nat) (w : World) (hs : s.size < 4611686018427387904) :
    Calls Tryz.prog 63 #[.string s, .int .i64 e] w fun x w' => x = .returned (.tuple #[.int .i32 (pOf s e), .int .i64 (nOf s e), .bool (gOf s e)]) ∧ Below w.heap.size w w' := by
  have := scan_next s e w hs
  have h2 : (nxT s e).2.1 = ((nOf s e : Nat) : Int) := by have := nxT_bd s e; unfold nOf; omega
  rw [h2] at this; exact this
def nmGo (s : ByteArray) (a : Nat) : Nat → Nat → Int × Int × Int
  | 0, _ => (0, 0, 0)
  | k + 1, e => if e < s.size ∧ gOf s e = true ∧ partB (pOf s e) = true then (if 65535 + a < e + nOf s e then (0, (a : Int), 103) else nmGo s a k (e + nOf s e)) else if keyB (s.extract a e) = true then (2, (e : Int), 0) else (1, (e : Int), 0)
def nbGo (s : ByteArray) (a : Nat) : Nat → Nat → Int × Int × Int
  | 0, _ => (0, 0, 0)
  | k + 1, e => if e < s.size ∧ 48 ≤ pOf s e ∧ pOf s e ≤ 57 then (if 65535 + a < e + nOf s e then (0, (a : Int), 103) else nbGo s a k (e + nOf s e)) else (3, (e : Int), 0)
def ctlB (s : ByteArray) (e : Nat) : Bool := gOf s e && (decide (pOf s e < 32) || decide (pOf s e = 127))
def qtGo (s : ByteArray) (a : Nat) : Nat → Nat → Int × Int × Int
  | 0, _ => (0, 0, 0)
  | k + 1, e => if ¬ e < s.size ∨ pOf s e = 10 then (0, (a : Int), 101) else if 65535 + a < e + nOf s e then (0, (a : Int), 103) else if ctlB s e = true then (0, (e : Int), 102) else if pOf s e = 34 then (4, ((e + nOf s e : Nat) : Int), 0) else qtGo s a k (e + nOf s e)
def cmGo (s : ByteArray) (a : Nat) (line : Bool) : Nat → Nat → Int × Int × Int
  | 0, _ => (0, 0, 0)
  | k + 1, e => if line = true ∧ (¬ e < s.size ∨ pOf s e = 10) then (7, (e : Int), 0) else if ¬ e < s.size then (0, (a : Int), 101) else if 65535 + a < e + nOf s e then (0, (a : Int), 103) else if line = false ∧ pOf s e = 125 then (8, ((e + nOf s e : Nat) : Int), 0) else cmGo s a line k (e + nOf s e)
set_option maxHeartbeats 4000000 in
set_option maxRecDepth 100000 in
theorem scan_numbered (s : ByteArray) (a b : Nat) (w : World) (hs : s.size < 4611686018427387904) (hab : a ≤ b) (hbs : b ≤ s.size) :
    Calls Tryz.prog 66 #[.string s, .int .i64 a, .int .i64 b] w fun e w' => e = .returned (.tuple #[.int .u8 (nbGo s a (s.size + 1) b).1, .int .i64 (nbGo s a (s.size + 1) b).2.1, .int .i64 (nbGo s a (s.size + 1) b).2.2]) ∧ Below w.heap.size w w' := by
  obtain ⟨R, hR⟩ : ∃ R, nbGo s a (s.size + 1) b = R := ⟨_, rfl⟩
  rw [hR]
  replace hR := Lib.hid hR
  go_enter Tryz.func66, Tryz.ntmps66
  go_wp2_with fail
  refine wp_scope_jumps1 0 (fun a' w' => Below w.heap.size w w' ∧ ∃ (e k : Nat) (u9 u10 u11 u12 u13 u14 u15 u16 u17 u18 u19 u20 u21 u22 u23 u24 u25 u26 u27 u28 u29 u30 u31 u32 u33 u34 u35 u36 u37 : Value), a' = ⟨#[.string s, .int .i64 a, .int .i64 e, undef, undef, undef, .int .u8 0, .int .i64 0, .int .i64 0, u9, u10, u11, u12, u13, u14, u15, u16, u17, u18, u19, u20, u21, u22, u23, u24, u25, u26, u27, u28, u29, u30, u31, u32, u33, u34, u35, u36, u37], []⟩ ∧ Hid (nbGo s a k e = R) ∧ Hid (s.size < e + k) ∧ a ≤ e ∧ e ≤ s.size) (fun a' _ => s.size + 1 - (RowKit.intOf (a'.tmps.getD 2 undef)).toNat) rfl ?_ ?_
  · rintro a' w' ⟨hb, e, k, u9, u10, u11, u12, u13, u14, u15, u16, u17, u18, u19, u20, u21, u22, u23, u24, u25, u26, u27, u28, u29, u30, u31, u32, u33, u34, u35, u36, u37, rfl, hR, hk, hae, hes⟩
    obtain ⟨j, rfl⟩ : ∃ j, k = j + 1 := ⟨k - 1, by have := hk.out; omega⟩
    have cN := Lib.hid (fun w => scan_next' s e w hs)
    have hnb := nOf_bd s e
    have hne := nOf_end s e
    have hpb := pOf_bd s e
    obtain ⟨p, hp⟩ : ∃ p, pOf s e = p := ⟨_, rfl⟩
    obtain ⟨n, hn⟩ : ∃ n, nOf s e = n := ⟨_, rfl⟩
    obtain ⟨g, hg⟩ : ∃ g, gOf s e = g := ⟨_, rfl⟩
    have hRr := hR.out
    rw [show nbGo s a (j + 1) e = (if e < s.size ∧ 48 ≤ pOf s e ∧ pOf s e ≤ 57 then (if 65535 + a < e + nOf s e then (0, (a : Int), 103) else nbGo s a j (e + nOf s e)) else (3, (e : Int), 0)) from rfl] at hRr
    rw [hp, hn, hg] at cN
    rw [hp, hn] at hRr
    rw [hn] at hnb; rw [hp] at hpb; rw [hn, hp, hg] at hne
    obtain ⟨hpb1, hpb2⟩ := hpb
    replace hp := Lib.hid hp; replace hn := Lib.hid hn; replace hg := Lib.hid hg
    clear hR
    by_cases hlt : e < s.size
    · obtain ⟨hn1, hn2, hn3⟩ := hnb hlt
      clear hne hnb
      by_cases h1 : 48 ≤ p
      · by_cases h2 : p ≤ 57
        · by_cases h3 : 65535 + a < e + n
          · rw [if_pos ⟨hlt, h1, h2⟩, if_pos h3] at hRr
            replace hR := Lib.hid hRr
            clear hRr
            go_wp2_with fail
            refine (cN.out w').mono ?_
            rintro x w1 ⟨rfl, b1⟩
            have hb1 := hb.trans (b1.mono hb.size)
            go_wp2_with fail
            simp only [Exit.jump]
            go_ret3
            exact ⟨by rw [← hR.out]; rfl, hb1⟩
          · rw [if_pos ⟨hlt, h1, h2⟩, if_neg h3] at hRr
            replace hR := Lib.hid hRr
            clear hRr
            go_wp2_with fail
            refine (cN.out w').mono ?_
            rintro x w1 ⟨rfl, b1⟩
            have hb1 := hb.trans (b1.mono hb.size)
            go_wp2_with fail
            go_step3
            refine ⟨rfl, ⟨hb1, e + n, j, _, _, _, _, _, _, _, _, _, _, _, _, _, _, _, _, _, _, _, _, _, _, _, _, _, _, _, _, _, rfl, hR, Lib.hid (by have := hk.out; omega), by omega, by omega⟩, ?_⟩
            show s.size + 1 - (e + n : Nat) < s.size + 1 - (e : Nat)
            omega
        · rw [if_neg (fun h => h2 h.2.2)] at hRr
          replace hR := Lib.hid hRr
          clear hRr
          go_wp2_with fail
          refine (cN.out w').mono ?_
          rintro x w1 ⟨rfl, b1⟩
          have hb1 := hb.trans (b1.mono hb.size)
          go_wp2_with fail
          simp only [Exit.jump]
          go_ret3
          exact ⟨by rw [← hR.out]; rfl, hb1⟩
      · rw [if_neg (fun h => h1 h.2.1)] at hRr
        replace hR := Lib.hid hRr
        clear hRr
        go_wp2_with fail
        refine (cN.out w').mono ?_
        rintro x w1 ⟨rfl, b1⟩
        have hb1 := hb.trans (b1.mono hb.size)
        go_wp2_with fail
        simp only [Exit.jump]
        go_ret3
        exact ⟨by rw [← hR.out]; rfl, hb1⟩
    · obtain ⟨rfl, rfl, rfl⟩ := hne (by omega)
      clear hnb
      rw [if_neg (fun h => hlt h.1)] at hRr
      replace hR := Lib.hid hRr
      clear hRr
      go_wp2_with fail
      refine (cN.out w').mono ?_
      rintro x w1 ⟨rfl, b1⟩
      have hb1 := hb.trans (b1.mono hb.size)
      go_wp2_with fail
      simp only [Exit.jump]
      go_ret3
      exact ⟨by rw [← hR.out]; rfl, hb1⟩
  · intro hp
    refine wp_seq (wp_label ?_)
    exact hp _ _ ⟨Below.refl _ _, b, s.size + 1, _, _, _, _, _, _, _, _, _, _, _, _, _, _, _, _, _, _, _, _, _, _, _, _, _, _, _, _, _, rfl, hR, Lib.hid (by omega), hab, hbs⟩
set_option maxHeartbeats 4000000 in
set_option maxRecDepth 100000 in
theorem scan_named (s : ByteArray) (a b : Nat) (w : World) (hs : s.size < 4611686018427387904) (hab : a ≤ b) (hbs : b ≤ s.size) (hT : Clas w) :
    Calls Tryz.prog 65 #[.string s, .int .i64 a, .int .i64 b] w fun e w' => e = .returned (.tuple #[.int .u8 (nmGo s a (s.size + 1) b).1, .int .i64 (nmGo s a (s.size + 1) b).2.1, .int .i64 (nmGo s a (s.size + 1) b).2.2]) ∧ Below w.heap.size w w' := by
  obtain ⟨R, hR⟩ : ∃ R, nmGo s a (s.size + 1) b = R := ⟨_, rfl⟩
  rw [hR]
  replace hR := Lib.hid hR
  go_enter Tryz.func65, Tryz.ntmps65
  go_wp2_with fail
  refine wp_scope_jumps1 0 (fun a' w' => Below w.heap.size w w' ∧ ∃ (e k : Nat) (u9 u10 u11 u12 u13 u14 u15 u16 u17 u18 u19 u20 u21 u22 u23 u24 u25 u26 u27 u28 u29 u30 u31 u32 u33 u34 u35 u36 u37 u38 u39 : Value), a' = ⟨#[.string s, .int .i64 a, .int .i64 e, undef, undef, undef, .int .u8 0, .int .i64 0, .int .i64 0, u9, u10, u11, u12, u13, u14, u15, u16, u17, u18, u19, u20, u21, u22, u23, u24, u25, u26, u27, u28, u29, u30, u31, u32, u33, u34, u35, u36, u37, u38, u39], []⟩ ∧ Hid (nmGo s a k e = R) ∧ Hid (s.size < e + k) ∧ a ≤ e ∧ e ≤ s.size) (fun a' _ => s.size + 1 - (RowKit.intOf (a'.tmps.getD 2 undef)).toNat) rfl ?_ ?_
  · rintro a' w' ⟨hb, e, k, u9, u10, u11, u12, u13, u14, u15, u16, u17, u18, u19, u20, u21, u22, u23, u24, u25, u26, u27, u28, u29, u30, u31, u32, u33, u34, u35, u36, u37, u38, u39, rfl, hR, hk, hae, hes⟩
    obtain ⟨j, rfl⟩ : ∃ j, k = j + 1 := ⟨k - 1, by have := hk.out; omega⟩
    have cN := Lib.hid (fun w => scan_next' s e w hs)
    have hnb := nOf_bd s e
    have hne := nOf_end s e
    have hpb := pOf_bd s e
    obtain ⟨p, hp⟩ : ∃ p, pOf s e = p := ⟨_, rfl⟩
    obtain ⟨n, hn⟩ : ∃ n, nOf s e = n := ⟨_, rfl⟩
    obtain ⟨g, hg⟩ : ∃ g, gOf s e = g := ⟨_, rfl⟩
    have hRr := hR.out
    obtain ⟨z, hz⟩ : ∃ z, keyB (s.extract a e) = z := ⟨_, rfl⟩
    obtain ⟨q, hq⟩ : ∃ q, partB (pOf s e) = q := ⟨_, rfl⟩
    rw [show nmGo s a (j + 1) e = (if e < s.size ∧ gOf s e = true ∧ partB (pOf s e) = true then (if 65535 + a < e + nOf s e then (0, (a : Int), 103) else nmGo s a j (e + nOf s e)) else if keyB (s.extract a e) = true then (2, (e : Int), 0) else (1, (e : Int), 0)) from rfl] at hRr
    rw [hp, hn, hg] at cN
    rw [hg, hq, hz, hn] at hRr
    rw [hn] at hnb; rw [hp] at hpb; rw [hn, hp, hg] at hne
    obtain ⟨hpb1, hpb2⟩ := hpb
    replace hp := Lib.hid hp; replace hn := Lib.hid hn; replace hg := Lib.hid hg
    clear hR
    rw [hp.out] at hq
    replace hq := Lib.hid hq; replace hz := Lib.hid hz
    have hae1 : (a : Int) ≤ (e : Int) := by omega
    have hae2 : (0 : Int) ≤ (a : Int) := by omega
    have hes1 : (e : Int) ≤ (s.size : Int) := by omega
    by_cases hlt : e < s.size
    · obtain ⟨hn1, hn2, hn3⟩ := hnb hlt
      clear hne hnb
      cases g
      · cases z
        · rw [if_neg (by simp), if_neg (by simp)] at hRr
          replace hR := Lib.hid hRr
          clear hRr
          go_wp2_with fail
          refine (cN.out w').mono ?_
          rintro x w1 ⟨rfl, b1⟩
          have hb1 := hb.trans (b1.mono hb.size)
          go_wp2_with fail
          refine (class_IsKey _ w1).mono ?_
          rw [hz.out]
          rintro x w3 ⟨rfl, b3⟩
          have hb3 := hb1.trans (b3.mono hb1.size)
          go_wp2_with fail
          simp only [Exit.jump]
          go_ret3
          exact ⟨by rw [← hR.out]; rfl, hb3⟩
        · rw [if_neg (by simp), if_pos rfl] at hRr
          replace hR := Lib.hid hRr
          clear hRr
          go_wp2_with fail
          refine (cN.out w').mono ?_
          rintro x w1 ⟨rfl, b1⟩
          have hb1 := hb.trans (b1.mono hb.size)
          go_wp2_with fail
          refine (class_IsKey _ w1).mono ?_
          rw [hz.out]
          rintro x w3 ⟨rfl, b3⟩
          have hb3 := hb1.trans (b3.mono hb1.size)
          go_wp2_with fail
          simp only [Exit.jump]
          go_ret3
          exact ⟨by rw [← hR.out]; rfl, hb3⟩
      · cases q
        · cases z
          · rw [if_neg (by simp), if_neg (by simp)] at hRr
            replace hR := Lib.hid hRr
            clear hRr
            go_wp2_with fail
            refine (cN.out w').mono ?_
            rintro x w1 ⟨rfl, b1⟩
            have hb1 := hb.trans (b1.mono hb.size)
            go_wp2_with fail
            refine (class_Part p w1 (hT.below hb1)).mono ?_
            rw [hq.out]
            rintro x w2 ⟨rfl, b2⟩
            have hb2 := hb1.trans (b2.mono hb1.size)
            go_wp2_with fail
            refine (class_IsKey _ w2).mono ?_
            rw [hz.out]
            rintro x w3 ⟨rfl, b3⟩
            have hb3 := hb2.trans (b3.mono hb2.size)
            go_wp2_with fail
            simp only [Exit.jump]
            go_ret3
            exact ⟨by rw [← hR.out]; rfl, hb3⟩
          · rw [if_neg (by simp), if_pos rfl] at hRr
            replace hR := Lib.hid hRr
            clear hRr
            go_wp2_with fail
            refine (cN.out w').mono ?_
            rintro x w1 ⟨rfl, b1⟩
            have hb1 := hb.trans (b1.mono hb.size)
            go_wp2_with fail
            refine (class_Part p w1 (hT.below hb1)).mono ?_
            rw [hq.out]
            rintro x w2 ⟨rfl, b2⟩
            have hb2 := hb1.trans (b2.mono hb1.size)
            go_wp2_with fail
            refine (class_IsKey _ w2).mono ?_
            rw [hz.out]
            rintro x w3 ⟨rfl, b3⟩
            have hb3 := hb2.trans (b3.mono hb2.size)
            go_wp2_with fail
            simp only [Exit.jump]
            go_ret3
            exact ⟨by rw [← hR.out]; rfl, hb3⟩
        · by_cases h3 : 65535 + a < e + n
          · rw [if_pos ⟨hlt, rfl, rfl⟩, if_pos h3] at hRr
            replace hR := Lib.hid hRr
            clear hRr
            go_wp2_with fail
            refine (cN.out w').mono ?_
            rintro x w1 ⟨rfl, b1⟩
            have hb1 := hb.trans (b1.mono hb.size)
            go_wp2_with fail
            refine (class_Part p w1 (hT.below hb1)).mono ?_
            rw [hq.out]
            rintro x w2 ⟨rfl, b2⟩
            have hb2 := hb1.trans (b2.mono hb1.size)
            go_wp2_with fail
            simp only [Exit.jump]
            go_ret3
            exact ⟨by rw [← hR.out]; rfl, hb2⟩
          · rw [if_pos ⟨hlt, rfl, rfl⟩, if_neg h3] at hRr
            replace hR := Lib.hid hRr
            clear hRr
            go_wp2_with fail
            refine (cN.out w').mono ?_
            rintro x w1 ⟨rfl, b1⟩
            have hb1 := hb.trans (b1.mono hb.size)
            go_wp2_with fail
            refine (class_Part p w1 (hT.below hb1)).mono ?_
            rw [hq.out]
            rintro x w2 ⟨rfl, b2⟩
            have hb2 := hb1.trans (b2.mono hb1.size)
            go_wp2_with fail
            go_step3
            refine ⟨rfl, ⟨hb2, e + n, j, _, _, _, _, _, _, _, _, _, _, _, _, _, _, _, _, _, _, _, _, _, _, _, _, _, _, _, _, _, _, _, rfl, hR, Lib.hid (by have := hk.out; omega), by omega, by omega⟩, ?_⟩
            show s.size + 1 - (e + n : Nat) < s.size + 1 - (e : Nat)
            omega
    · obtain ⟨rfl, rfl, rfl⟩ := hne (by omega)
      clear hnb
      cases z
      · rw [if_neg (fun h => hlt h.1), if_neg (by simp)] at hRr
        replace hR := Lib.hid hRr
        clear hRr
        go_wp2_with fail
        refine (cN.out w').mono ?_
        rintro x w1 ⟨rfl, b1⟩
        have hb1 := hb.trans (b1.mono hb.size)
        go_wp2_with fail
        refine (class_IsKey _ w1).mono ?_
        rw [hz.out]
        rintro x w3 ⟨rfl, b3⟩
        have hb3 := hb1.trans (b3.mono hb1.size)
        go_wp2_with fail
        simp only [Exit.jump]
        go_ret3
        exact ⟨by rw [← hR.out]; rfl, hb3⟩
      · rw [if_neg (fun h => hlt h.1), if_pos rfl] at hRr
        replace hR := Lib.hid hRr
        clear hRr
        go_wp2_with fail
        refine (cN.out w').mono ?_
        rintro x w1 ⟨rfl, b1⟩
        have hb1 := hb.trans (b1.mono hb.size)
        go_wp2_with fail
        refine (class_IsKey _ w1).mono ?_
        rw [hz.out]
        rintro x w3 ⟨rfl, b3⟩
        have hb3 := hb1.trans (b3.mono hb1.size)
        go_wp2_with fail
        simp only [Exit.jump]
        go_ret3
        exact ⟨by rw [← hR.out]; rfl, hb3⟩
  · intro hp
    refine wp_seq (wp_label ?_)
    exact hp _ _ ⟨Below.refl _ _, b, s.size + 1, _, _, _, _, _, _, _, _, _, _, _, _, _, _, _, _, _, _, _, _, _, _, _, _, _, _, _, _, _, _, _, rfl, hR, Lib.hid (by omega), hab, hbs⟩
theorem scan_control (p : Int) (g : Bool) (w : World) : Calls Tryz.prog 89 #[.int .i32 p, .bool g] w fun e w' => e = .returned (.bool (g && (decide (p < 32) || decide (p = 127)))) ∧ Below w.heap.size w w' := by
  by_cases h1 : p < 32
  · cases g
    · go_enter Tryz.func89, Tryz.ntmps89
      go_wp2_with fail
      go_ret
      exact ⟨rfl, Below.refl _ _⟩
    · go_enter Tryz.func89, Tryz.ntmps89
      go_wp2_with fail
      go_ret
      exact ⟨by simp [h1], Below.refl _ _⟩
  · have h1' : ¬ (p < 32) := h1
    cases g
    · go_enter Tryz.func89, Tryz.ntmps89
      go_wp2_with fail
      go_ret
      exact ⟨rfl, Below.refl _ _⟩
    · by_cases h2 : p = 127
      · subst h2
        go_enter Tryz.func89, Tryz.ntmps89
        go_wp2_with fail
        go_ret
        exact ⟨rfl, Below.refl _ _⟩
      · have f2 : (p == 127) = false := by simp [h2]
        have e2 : (true && (decide (p < 32) || decide (p = 127))) = false := by simp [h1, h2]
        rw [e2]
        clear e2 h2 h1
        go_enter Tryz.func89, Tryz.ntmps89
        go_wp2_with fail
        go_ret
        exact ⟨rfl, Below.refl _ _⟩
set_option maxHeartbeats 4000000 in
set_option maxRecDepth 100000 in
theorem scan_quoted (s : ByteArray) (a b : Nat) (w : World) (hs : s.size < 4611686018427387904) (hab : a ≤ b) (hbs : b ≤ s.size) :
    Calls Tryz.prog 67 #[.string s, .int .i64 a, .int .i64 b] w fun e w' => e = .returned (.tuple #[.int .u8 (qtGo s a (s.size + 1) b).1, .int .i64 (qtGo s a (s.size + 1) b).2.1, .int .i64 (qtGo s a (s.size + 1) b).2.2]) ∧ Below w.heap.size w w' := by
  obtain ⟨R, hR⟩ : ∃ R, qtGo s a (s.size + 1) b = R := ⟨_, rfl⟩
  rw [hR]
  replace hR := Lib.hid hR
  go_enter Tryz.func67, Tryz.ntmps67
  go_wp2_with fail
  refine wp_scope_jumps1 0 (fun a' w' => Below w.heap.size w w' ∧ ∃ (e k : Nat) (u9 u10 u11 u12 u13 u14 u15 u16 u17 u18 u19 u20 u21 u22 u23 u24 u25 u26 u27 u28 u29 u30 u31 u32 u33 u34 u35 u36 u37 u38 u39 u40 u41 u42 u43 u44 u45 : Value), a' = ⟨#[.string s, .int .i64 a, .int .i64 e, undef, undef, undef, .int .u8 0, .int .i64 0, .int .i64 0, u9, u10, u11, u12, u13, u14, u15, u16, u17, u18, u19, u20, u21, u22, u23, u24, u25, u26, u27, u28, u29, u30, u31, u32, u33, u34, u35, u36, u37, u38, u39, u40, u41, u42, u43, u44, u45], []⟩ ∧ Hid (qtGo s a k e = R) ∧ Hid (s.size < e + k) ∧ a ≤ e ∧ e ≤ s.size) (fun a' _ => s.size + 1 - (RowKit.intOf (a'.tmps.getD 2 undef)).toNat) rfl ?_ ?_
  · rintro a' w' ⟨hb, e, k, u9, u10, u11, u12, u13, u14, u15, u16, u17, u18, u19, u20, u21, u22, u23, u24, u25, u26, u27, u28, u29, u30, u31, u32, u33, u34, u35, u36, u37, u38, u39, u40, u41, u42, u43, u44, u45, rfl, hR, hk, hae, hes⟩
    obtain ⟨j, rfl⟩ : ∃ j, k = j + 1 := ⟨k - 1, by have := hk.out; omega⟩
    have cN := Lib.hid (fun w => scan_next' s e w hs)
    have hnb := nOf_bd s e
    have hne := nOf_end s e
    have hpb := pOf_bd s e
    obtain ⟨p, hp⟩ : ∃ p, pOf s e = p := ⟨_, rfl⟩
    obtain ⟨n, hn⟩ : ∃ n, nOf s e = n := ⟨_, rfl⟩
    obtain ⟨g, hg⟩ : ∃ g, gOf s e = g := ⟨_, rfl⟩
    have hRr := hR.out
    obtain ⟨ct, hct⟩ : ∃ ct, ctlB s e = ct := ⟨_, rfl⟩
    rw [show qtGo s a (j + 1) e = (if ¬ e < s.size ∨ pOf s e = 10 then (0, (a : Int), 101) else if 65535 + a < e + nOf s e then (0, (a : Int), 103) else if ctlB s e = true then (0, (e : Int), 102) else if pOf s e = 34 then (4, ((e + nOf s e : Nat) : Int), 0) else qtGo s a j (e + nOf s e)) from rfl] at hRr
    rw [hp, hn, hg] at cN
    rw [hp, hn, hct] at hRr
    rw [hn] at hnb; rw [hp] at hpb; rw [hn, hp, hg] at hne
    obtain ⟨hpb1, hpb2⟩ := hpb
    replace hp := Lib.hid hp; replace hn := Lib.hid hn; replace hg := Lib.hid hg
    clear hR
    rw [show ctlB s e = (g && (decide (p < 32) || decide (p = 127))) by unfold ctlB; rw [hp.out, hg.out]] at hct
    replace hct := Lib.hid hct
    by_cases hlt : e < s.size
    · obtain ⟨hn1, hn2, hn3⟩ := hnb hlt
      clear hne hnb
      by_cases h10 : p = 10
      · subst h10
        rw [if_pos (.inr rfl)] at hRr
        replace hR := Lib.hid hRr
        clear hRr
        go_wp2_with fail
        refine (cN.out w').mono ?_
        rintro x w1 ⟨rfl, b1⟩
        have hb1 := hb.trans (b1.mono hb.size)
        go_wp2_with fail
        simp only [Exit.jump]
        go_ret3
        exact ⟨by rw [← hR.out]; rfl, hb1⟩
      · have f10 : (p == 10) = false := by simp [h10]
        by_cases h3 : 65535 + a < e + n
        · replace h10 := Lib.hid h10
          rw [if_neg (fun h => h.elim (fun h => h hlt) h10.out), if_pos h3] at hRr
          replace hR := Lib.hid hRr
          clear hRr
          go_wp2_with fail
          refine (cN.out w').mono ?_
          rintro x w1 ⟨rfl, b1⟩
          have hb1 := hb.trans (b1.mono hb.size)
          go_wp2_with fail
          simp only [Exit.jump]
          go_ret3
          exact ⟨by rw [← hR.out]; rfl, hb1⟩
        · replace h10 := Lib.hid h10
          cases ct
          · by_cases h34 : p = 34
            · subst h34
              rw [if_neg (fun h => h.elim (fun h => h hlt) h10.out), if_neg h3, if_neg (by simp), if_pos rfl] at hRr
              replace hR := Lib.hid hRr
              clear hRr
              go_wp2_with fail
              refine (cN.out w').mono ?_
              rintro x w1 ⟨rfl, b1⟩
              have hb1 := hb.trans (b1.mono hb.size)
              go_wp2_with fail
              refine (scan_control _ _ w1).mono ?_
              rw [hct.out]
              rintro x w2 ⟨rfl, b2⟩
              have hb2 := hb1.trans (b2.mono hb1.size)
              go_wp2_with fail
              simp only [Exit.jump]
              go_ret3
              exact ⟨by rw [← hR.out]; rfl, hb2⟩
            · have f34 : (p == 34) = false := by simp [h34]
              have f34n : (p != 34) = true := by simp [h34]
              replace h34 := Lib.hid h34
              rw [if_neg (fun h => h.elim (fun h => h hlt) h10.out), if_neg h3, if_neg (by simp), if_neg h34.out] at hRr
              replace hR := Lib.hid hRr
              clear hRr
              go_wp2_with fail
              refine (cN.out w').mono ?_
              rintro x w1 ⟨rfl, b1⟩
              have hb1 := hb.trans (b1.mono hb.size)
              go_wp2_with fail
              refine (scan_control _ _ w1).mono ?_
              rw [hct.out]
              rintro x w2 ⟨rfl, b2⟩
              have hb2 := hb1.trans (b2.mono hb1.size)
              go_wp2_with fail
              go_step3
              refine ⟨rfl, ⟨hb2, e + n, j, _, _, _, _, _, _, _, _, _, _, _, _, _, _, _, _, _, _, _, _, _, _, _, _, _, _, _, _, _, _, _, _, _, _, _, _, _, rfl, hR, Lib.hid (by have := hk.out; omega), by omega, by omega⟩, ?_⟩
              show s.size + 1 - (e + n : Nat) < s.size + 1 - (e : Nat)
              omega
          · rw [if_neg (fun h => h.elim (fun h => h hlt) h10.out), if_neg h3, if_pos rfl] at hRr
            replace hR := Lib.hid hRr
            clear hRr
            go_wp2_with fail
            refine (cN.out w').mono ?_
            rintro x w1 ⟨rfl, b1⟩
            have hb1 := hb.trans (b1.mono hb.size)
            go_wp2_with fail
            refine (scan_control _ _ w1).mono ?_
            rw [hct.out]
            rintro x w2 ⟨rfl, b2⟩
            have hb2 := hb1.trans (b2.mono hb1.size)
            go_wp2_with fail
            simp only [Exit.jump]
            go_ret3
            exact ⟨by rw [← hR.out]; rfl, hb2⟩
    · obtain ⟨rfl, rfl, rfl⟩ := hne (by omega)
      clear hnb
      rw [if_pos (.inl hlt)] at hRr
      replace hR := Lib.hid hRr
      clear hRr
      go_wp2_with fail
      refine (cN.out w').mono ?_
      rintro x w1 ⟨rfl, b1⟩
      have hb1 := hb.trans (b1.mono hb.size)
      go_wp2_with fail
      simp only [Exit.jump]
      go_ret3
      exact ⟨by rw [← hR.out]; rfl, hb1⟩
  · intro hp
    refine wp_seq (wp_label ?_)
    exact hp _ _ ⟨Below.refl _ _, b, s.size + 1, _, _, _, _, _, _, _, _, _, _, _, _, _, _, _, _, _, _, _, _, _, _, _, _, _, _, _, _, _, _, _, _, _, _, _, _, _, rfl, hR, Lib.hid (by omega), hab, hbs⟩
set_option maxHeartbeats 4000000 in
set_option maxRecDepth 100000 in
theorem scan_comment_line (s : ByteArray) (a b : Nat) (w : World) (hs : s.size < 4611686018427387904) (hab : a ≤ b) (hbs : b ≤ s.size) (has : a < s.size) (hline : ((byteAt s a : Int) == 47) = true) :
    Calls Tryz.prog 70 #[.string s, .int .i64 a, .int .i64 b] w fun e w' => e = .returned (.tuple #[.int .u8 (cmGo s a true (s.size + 1) b).1, .int .i64 (cmGo s a true (s.size + 1) b).2.1, .int .i64 (cmGo s a true (s.size + 1) b).2.2]) ∧ Below w.heap.size w w' := by
  obtain ⟨R, hR⟩ : ∃ R, cmGo s a true (s.size + 1) b = R := ⟨_, rfl⟩
  rw [hR]
  replace hR := Lib.hid hR
  have has1 : (a : Int) < (s.size : Int) := by omega
  have has0 : (0 : Int) ≤ (a : Int) := by omega
  go_enter Tryz.func70, Tryz.ntmps70
  go_wp2_with fail
  refine wp_scope_jumps1 0 (fun a' w' => Below w.heap.size w w' ∧ ∃ (e k : Nat) (u10 u11 u12 u13 u14 u15 u16 u17 u18 u19 u20 u21 u22 u23 u24 u25 u26 u27 u28 u29 u30 u31 u32 u33 u34 u35 u36 u37 u38 u39 u40 u41 u42 u43 u44 u45 u46 u47 u48 u49 u50 u51 u52 : Value), a' = ⟨#[.string s, .int .i64 a, .int .i64 e, undef, undef, undef, .int .u8 0, .int .i64 0, .int .i64 0, .bool true, u10, u11, u12, u13, u14, u15, u16, u17, u18, u19, u20, u21, u22, u23, u24, u25, u26, u27, u28, u29, u30, u31, u32, u33, u34, u35, u36, u37, u38, u39, u40, u41, u42, u43, u44, u45, u46, u47, u48, u49, u50, u51, u52], []⟩ ∧ Hid (cmGo s a true k e = R) ∧ Hid (s.size < e + k) ∧ a ≤ e ∧ e ≤ s.size) (fun a' _ => s.size + 1 - (RowKit.intOf (a'.tmps.getD 2 undef)).toNat) rfl ?_ ?_
  · rintro a' w' ⟨hb, e, k, u10, u11, u12, u13, u14, u15, u16, u17, u18, u19, u20, u21, u22, u23, u24, u25, u26, u27, u28, u29, u30, u31, u32, u33, u34, u35, u36, u37, u38, u39, u40, u41, u42, u43, u44, u45, u46, u47, u48, u49, u50, u51, u52, rfl, hR, hk, hae, hes⟩
    obtain ⟨j, rfl⟩ : ∃ j, k = j + 1 := ⟨k - 1, by have := hk.out; omega⟩
    have cN := Lib.hid (fun w => scan_next' s e w hs)
    have hnb := nOf_bd s e
    have hne := nOf_end s e
    have hpb := pOf_bd s e
    obtain ⟨p, hp⟩ : ∃ p, pOf s e = p := ⟨_, rfl⟩
    obtain ⟨n, hn⟩ : ∃ n, nOf s e = n := ⟨_, rfl⟩
    obtain ⟨g, hg⟩ : ∃ g, gOf s e = g := ⟨_, rfl⟩
    have hRr := hR.out
    rw [show cmGo s a true (j + 1) e = (if true = true ∧ (¬ e < s.size ∨ pOf s e = 10) then (7, (e : Int), 0) else if ¬ e < s.size then (0, (a : Int), 101) else if 65535 + a < e + nOf s e then (0, (a : Int), 103) else if true = false ∧ pOf s e = 125 then (8, ((e + nOf s e : Nat) : Int), 0) else cmGo s a true j (e + nOf s e)) from rfl] at hRr
    rw [hp, hn, hg] at cN
    rw [hp, hn] at hRr
    rw [hn] at hnb; rw [hp] at hpb; rw [hn, hp, hg] at hne
    obtain ⟨hpb1, hpb2⟩ := hpb
    replace hp := Lib.hid hp; replace hn := Lib.hid hn; replace hg := Lib.hid hg
    clear hR
    by_cases hlt : e < s.size
    · obtain ⟨hn1, hn2, hn3⟩ := hnb hlt
      clear hne hnb
      by_cases h10 : p = 10
      · subst h10
        rw [if_pos ⟨rfl, .inr rfl⟩] at hRr
        replace hR := Lib.hid hRr
        clear hRr
        go_wp2_with fail
        refine (cN.out w').mono ?_
        rintro x w1 ⟨rfl, b1⟩
        have hb1 := hb.trans (b1.mono hb.size)
        go_wp2_with fail
        simp only [Exit.jump]
        go_ret3
        exact ⟨by rw [← hR.out]; rfl, hb1⟩
      · have f10 : (p == 10) = false := by simp [h10]
        replace h10 := Lib.hid h10
        by_cases h3 : 65535 + a < e + n
        · rw [if_neg (fun h => h.2.elim (fun h => h hlt) h10.out), if_neg (fun h => h hlt), if_pos h3] at hRr
          replace hR := Lib.hid hRr
          clear hRr
          go_wp2_with fail
          refine (cN.out w').mono ?_
          rintro x w1 ⟨rfl, b1⟩
          have hb1 := hb.trans (b1.mono hb.size)
          go_wp2_with fail
          simp only [Exit.jump]
          go_ret3
          exact ⟨by rw [← hR.out]; rfl, hb1⟩
        · rw [if_neg (fun h => h.2.elim (fun h => h hlt) h10.out), if_neg (fun h => h hlt), if_neg h3, if_neg (by simp)] at hRr
          replace hR := Lib.hid hRr
          clear hRr
          go_wp2_with fail
          refine (cN.out w').mono ?_
          rintro x w1 ⟨rfl, b1⟩
          have hb1 := hb.trans (b1.mono hb.size)
          go_wp2_with fail
          go_step3
          refine ⟨rfl, ⟨hb1, e + n, j, _, _, _, _, _, _, _, _, _, _, _, _, _, _, _, _, _, _, _, _, _, _, _, _, _, _, _, _, _, _, _, _, _, _, _, _, _, _, _, _, _, _, _, rfl, hR, Lib.hid (by have := hk.out; omega), by omega, by omega⟩, ?_⟩
          show s.size + 1 - (e + n : Nat) < s.size + 1 - (e : Nat)
          omega
    · obtain ⟨rfl, rfl, rfl⟩ := hne (by omega)
      clear hnb
      rw [if_pos ⟨rfl, .inl hlt⟩] at hRr
      replace hR := Lib.hid hRr
      clear hRr
      go_wp2_with fail
      refine (cN.out w').mono ?_
      rintro x w1 ⟨rfl, b1⟩
      have hb1 := hb.trans (b1.mono hb.size)
      go_wp2_with fail
      simp only [Exit.jump]
      go_ret3
      exact ⟨by rw [← hR.out]; rfl, hb1⟩
  · intro hp
    refine wp_seq_k (fun K hK => ?_)
    replace hK := Lib.hid hK
    go_wp2_with fail
    refine hK.out _ _ (wp_seq (wp_label ?_))
    exact hp _ _ ⟨Below.refl _ _, b, s.size + 1, _, _, _, _, _, _, _, _, _, _, _, _, _, _, _, _, _, _, _, _, _, _, _, _, _, _, _, _, _, _, _, _, _, _, _, _, _, _, _, _, _, _, _, rfl, hR, Lib.hid (by omega), hab, hbs⟩
set_option maxHeartbeats 4000000 in
set_option maxRecDepth 100000 in
theorem scan_comment_block (s : ByteArray) (a b : Nat) (w : World) (hs : s.size < 4611686018427387904) (hab : a ≤ b) (hbs : b ≤ s.size) (has : a < s.size) (hline : ((byteAt s a : Int) == 47) = false) :
    Calls Tryz.prog 70 #[.string s, .int .i64 a, .int .i64 b] w fun e w' => e = .returned (.tuple #[.int .u8 (cmGo s a false (s.size + 1) b).1, .int .i64 (cmGo s a false (s.size + 1) b).2.1, .int .i64 (cmGo s a false (s.size + 1) b).2.2]) ∧ Below w.heap.size w w' := by
  obtain ⟨R, hR⟩ : ∃ R, cmGo s a false (s.size + 1) b = R := ⟨_, rfl⟩
  rw [hR]
  replace hR := Lib.hid hR
  have has1 : (a : Int) < (s.size : Int) := by omega
  have has0 : (0 : Int) ≤ (a : Int) := by omega
  go_enter Tryz.func70, Tryz.ntmps70
  go_wp2_with fail
  refine wp_scope_jumps1 0 (fun a' w' => Below w.heap.size w w' ∧ ∃ (e k : Nat) (u10 u11 u12 u13 u14 u15 u16 u17 u18 u19 u20 u21 u22 u23 u24 u25 u26 u27 u28 u29 u30 u31 u32 u33 u34 u35 u36 u37 u38 u39 u40 u41 u42 u43 u44 u45 u46 u47 u48 u49 u50 u51 u52 : Value), a' = ⟨#[.string s, .int .i64 a, .int .i64 e, undef, undef, undef, .int .u8 0, .int .i64 0, .int .i64 0, .bool false, u10, u11, u12, u13, u14, u15, u16, u17, u18, u19, u20, u21, u22, u23, u24, u25, u26, u27, u28, u29, u30, u31, u32, u33, u34, u35, u36, u37, u38, u39, u40, u41, u42, u43, u44, u45, u46, u47, u48, u49, u50, u51, u52], []⟩ ∧ Hid (cmGo s a false k e = R) ∧ Hid (s.size < e + k) ∧ a ≤ e ∧ e ≤ s.size) (fun a' _ => s.size + 1 - (RowKit.intOf (a'.tmps.getD 2 undef)).toNat) rfl ?_ ?_
  · rintro a' w' ⟨hb, e, k, u10, u11, u12, u13, u14, u15, u16, u17, u18, u19, u20, u21, u22, u23, u24, u25, u26, u27, u28, u29, u30, u31, u32, u33, u34, u35, u36, u37, u38, u39, u40, u41, u42, u43, u44, u45, u46, u47, u48, u49, u50, u51, u52, rfl, hR, hk, hae, hes⟩
    obtain ⟨j, rfl⟩ : ∃ j, k = j + 1 := ⟨k - 1, by have := hk.out; omega⟩
    have cN := Lib.hid (fun w => scan_next' s e w hs)
    have hnb := nOf_bd s e
    have hne := nOf_end s e
    have hpb := pOf_bd s e
    obtain ⟨p, hp⟩ : ∃ p, pOf s e = p := ⟨_, rfl⟩
    obtain ⟨n, hn⟩ : ∃ n, nOf s e = n := ⟨_, rfl⟩
    obtain ⟨g, hg⟩ : ∃ g, gOf s e = g := ⟨_, rfl⟩
    have hRr := hR.out
    rw [show cmGo s a false (j + 1) e = (if false = true ∧ (¬ e < s.size ∨ pOf s e = 10) then (7, (e : Int), 0) else if ¬ e < s.size then (0, (a : Int), 101) else if 65535 + a < e + nOf s e then (0, (a : Int), 103) else if false = false ∧ pOf s e = 125 then (8, ((e + nOf s e : Nat) : Int), 0) else cmGo s a false j (e + nOf s e)) from rfl] at hRr
    rw [hp, hn, hg] at cN
    rw [hp, hn] at hRr
    rw [hn] at hnb; rw [hp] at hpb; rw [hn, hp, hg] at hne
    obtain ⟨hpb1, hpb2⟩ := hpb
    replace hp := Lib.hid hp; replace hn := Lib.hid hn; replace hg := Lib.hid hg
    clear hR
    by_cases hlt : e < s.size
    · obtain ⟨hn1, hn2, hn3⟩ := hnb hlt
      clear hne hnb
      by_cases h3 : 65535 + a < e + n
      · rw [if_neg (by simp), if_neg (fun h => h hlt), if_pos h3] at hRr
        replace hR := Lib.hid hRr
        clear hRr
        go_wp2_with fail
        refine (cN.out w').mono ?_
        rintro x w1 ⟨rfl, b1⟩
        have hb1 := hb.trans (b1.mono hb.size)
        go_wp2_with fail
        simp only [Exit.jump]
        go_ret3
        exact ⟨by rw [← hR.out]; rfl, hb1⟩
      · by_cases h125 : p = 125
        · subst h125
          rw [if_neg (by simp), if_neg (fun h => h hlt), if_neg h3, if_pos ⟨rfl, rfl⟩] at hRr
          replace hR := Lib.hid hRr
          clear hRr
          go_wp2_with fail
          refine (cN.out w').mono ?_
          rintro x w1 ⟨rfl, b1⟩
          have hb1 := hb.trans (b1.mono hb.size)
          go_wp2_with fail
          simp only [Exit.jump]
          go_ret3
          exact ⟨by rw [← hR.out]; rfl, hb1⟩
        · have f125 : (p == 125) = false := by simp [h125]
          have f125n : (p != 125) = true := by simp [h125]
          replace h125 := Lib.hid h125
          rw [if_neg (by simp), if_neg (fun h => h hlt), if_neg h3, if_neg (fun h => h125.out h.2)] at hRr
          replace hR := Lib.hid hRr
          clear hRr
          go_wp2_with fail
          refine (cN.out w').mono ?_
          rintro x w1 ⟨rfl, b1⟩
          have hb1 := hb.trans (b1.mono hb.size)
          go_wp2_with fail
          go_step3
          refine ⟨rfl, ⟨hb1, e + n, j, _, _, _, _, _, _, _, _, _, _, _, _, _, _, _, _, _, _, _, _, _, _, _, _, _, _, _, _, _, _, _, _, _, _, _, _, _, _, _, _, _, _, _, rfl, hR, Lib.hid (by have := hk.out; omega), by omega, by omega⟩, ?_⟩
          show s.size + 1 - (e + n : Nat) < s.size + 1 - (e : Nat)
          omega
    · obtain ⟨rfl, rfl, rfl⟩ := hne (by omega)
      clear hnb
      rw [if_neg (by simp), if_pos hlt] at hRr
      replace hR := Lib.hid hRr
      clear hRr
      go_wp2_with fail
      refine (cN.out w').mono ?_
      rintro x w1 ⟨rfl, b1⟩
      have hb1 := hb.trans (b1.mono hb.size)
      go_wp2_with fail
      simp only [Exit.jump]
      go_ret3
      exact ⟨by rw [← hR.out]; rfl, hb1⟩
  · intro hp
    refine wp_seq_k (fun K hK => ?_)
    replace hK := Lib.hid hK
    go_wp2_with fail
    refine hK.out _ _ (wp_seq (wp_label ?_))
    exact hp _ _ ⟨Below.refl _ _, b, s.size + 1, _, _, _, _, _, _, _, _, _, _, _, _, _, _, _, _, _, _, _, _, _, _, _, _, _, _, _, _, _, _, _, _, _, _, _, _, _, _, _, _, _, _, _, rfl, hR, Lib.hid (by omega), hab, hbs⟩
end Go.Proofs.YtdphhmigbbgjmaaGreatDoor
