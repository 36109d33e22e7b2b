/- WholeFills: words, and what fills lines by definition: the walks. -/
import Derived.Test.YtphcmbdmkhmfbaaDoorFill
import Derived.Test.YtphcmbdmkhmfbaaDoorIdleW
import Derived.Lib.SmallJoins
namespace Go.Proofs.YtphcmbdmkhmfbaaDoor
open Go.RowKit Go.Lib
set_option linter.unusedVariables false
set_option linter.unusedSimpArgs false
def wl (n which : Nat) : List UInt8 := (List.range n).map fun i => UInt8.ofNat (97 + (which + i) % 26)
theorem wl_len (n which : Nat) : (wl n which).length = n := by simp [wl]
theorem wl_snoc (n which : Nat) : wl (n + 1) which = wl n which ++ [UInt8.ofNat (97 + (which + n) % 26)] := by simp [wl, List.range_succ]
theorem byteCells_app (a b : List UInt8) : byteCells (a ++ b) = byteCells a ++ byteCells b := by simp [byteCells]
set_option maxHeartbeats 4000000 in
set_option maxRecDepth 100000 in
theorem l8_word (n which : Nat) (w : World) (hn : n ≤ 1048576) (hw : which ≤ 1048576) : Calls Tryd.prog 60 #[.int .i64 n, .int .i64 which] w fun e w' => e = .returned (.string ⟨(wl n which).toArray⟩) ∧ Below w.heap.size w w' := by
  have hz0 : (0 : Int) ≤ n := by omega
  go_enter Tryd.func60, Tryd.ntmps60
  go_wp2_with (refine make_at _ rfl (.tmp 7) (.tmp 7) 39 rfl w.heap.size 5 Tryd.underlying39 infoB rfl .i64 .i64 n rfl rfl (by omega) (by omega) (Nat.le_refl _) ?_; intro hro)
  simp only [Nat.mul_one, Value.cells] at hro
  obtain ⟨W1, hW1⟩ : ∃ W1, w.alloc (.cells (madeCells #[Value.int IntKind.u8 0] n) 5) = W1 := ⟨_, rfl⟩
  rw [hW1] at hro ⊢
  have hz : (madeCells #[Value.int IntKind.u8 0] n).toList = List.replicate n (.int .u8 0) := toList_madeCells_one _ _
  have hb1 : Below w.heap.size w W1 := by rw [← hW1]; exact (Below.refl _ _).alloc (Nat.le_refl _) _
  have hro1 : W1.ownsRow w.heap.size 5 1 (.slice (some ⟨w.heap.size, 0, none⟩) n n) n (List.replicate n (.int .u8 0)) := by
    rw [← hz]; exact hro
  clear hro hW1 hz
  go_loopw [6] (fun iv W => ∃ (i : Nat), iv = .int .i64 i ∧ i ≤ n ∧ Hid (W.ownsRow w.heap.size 5 1 (.slice (some ⟨w.heap.size, 0, none⟩) n n) n (byteCells (wl i which) ++ List.replicate (n - i) (.int .u8 0))) ∧ Hid (Below w.heap.size w W)) (fun iv _ => n - (RowKit.intOf iv).toNat)
  case atStart => exact ⟨0, rfl, by omega, Lib.hid (by simpa [wl, byteCells] using hro1), Lib.hid hb1⟩
  case round =>
    obtain ⟨i, rfl, hi, hS, hb⟩ := hrel
    clear hro1 hb1
    by_cases hlt : i < n
    · have hi1 : (i : Int) < n := by omega
      have hi2 : (0 : Int) ≤ i := by omega
      have wi : IntKind.i64.wrap ((i : Int) + 1) = i + 1 := IntWalk.i64_in _ (by omega)
      have hmeas : n - (RowKit.intOf (.int .i64 ((i : Int) + 1))).toNat < n - (RowKit.intOf (.int .i64 (i : Int))).toNat := by simp [RowKit.intOf]; omega
      have wa : IntKind.i64.wrap ((which : Int) + i) = which + i := IntWalk.i64_in _ (by omega)
      have hm1 : (0 : Int) ≤ (which : Int) + i := by omega
      have wm : ((which : Int) + i).tmod 26 = ((which : Int) + i) % 26 := Int.tmod_eq_emod_of_nonneg hm1
      have wb : IntKind.i64.wrap (97 + ((which : Int) + i) % 26) = 97 + ((which : Int) + i) % 26 := IntWalk.i64_in _ (by omega)
      have wu : IntKind.u8.wrap (97 + ((which : Int) + i) % 26) = 97 + ((which : Int) + i) % 26 := by
        have : 0 ≤ ((which : Int) + i) % 26 ∧ ((which : Int) + i) % 26 < 26 := by omega
        rw [IntKind.wrap_u8]; omega
      have hcur : wr.cell? ⟨w.heap.size, i, none⟩ = some (.int .u8 0) := by
        rw [World.ownsRow.cellAt hS.out i (by omega), List.getElem?_append_right (by simp [byteCells, wl_len])]
        rw [show i - (byteCells (wl i which)).length = 0 by simp [byteCells, wl_len], List.getElem?_replicate, if_pos (by omega)]
      have hfr := World.ownsRow.frozenAt hS.out i
      have hst := (World.ownsRow.stored hS.out i (.int .u8 (97 + ((which : Int) + i) % 26))).1
      have hval : (97 + ((which : Int) + i) % 26) = ((UInt8.ofNat (97 + (which + i) % 26)).toNat : Int) := by
        have : (97 + (which + i) % 26) < 256 := by omega
        simp [Nat.mod_eq_of_lt this]
      have hnew : (byteCells (wl i which) ++ List.replicate (n - i) (Value.int .u8 0)).set i (.int .u8 (97 + ((which : Int) + i) % 26)) = byteCells (wl (i + 1) which) ++ List.replicate (n - (i + 1)) (.int .u8 0) := by
        rw [List.set_append_right _ _ (by simp [byteCells, wl_len]), wl_snoc, byteCells_app, hval]
        have : n - i = (n - (i + 1)) + 1 := by omega
        rw [this, List.replicate_succ]
        simp [byteCells, wl_len]
      rw [hnew] at hst
      have hb2 := Lib.hid (hb.out.setCell (p := ⟨w.heap.size, i, none⟩) (Nat.le_refl _) (.int .u8 (97 + ((which : Int) + i) % 26)))
      replace hst := Lib.hid hst; replace hnew := Lib.hid hnew; replace hval := Lib.hid hval
      clear hS hb
      go_wp2_with fail
      exact ⟨⟨i + 1, by go_num, by omega, hst, hb2⟩, hmeas⟩
    · have hi1 : ¬ (i : Int) < n := by omega
      have he : i = n := by omega
      subst he
      have hbuf : Buf wr w.heap.size (.slice (some ⟨w.heap.size, 0, none⟩) i i) (wl i which) := by
        have := hS.out
        rw [Nat.sub_self, List.replicate_zero, List.append_nil] at this
        unfold Buf; rw [wl_len]; exact this
      have hcv := buf_string hbuf
      clear hS
      go_wp2_with fail
      go_ret
      exact ⟨rfl, hb.out⟩
/-- Slices that are only read. -/
def Strs (w : World) (ao : Option Addr) (L : List (List UInt8)) : Prop := ∀ (i : Nat) (t : List UInt8), L[i]? = some t → ∃ b o, ao = some ⟨b, o, none⟩ ∧ w.cell? ⟨b, o + i, none⟩ = some (.string ⟨t.toArray⟩)
def Ints (w : World) (ao : Option Addr) (L : List Nat) : Prop := ∀ (i : Nat) (k : Nat), L[i]? = some k → ∃ b o, ao = some ⟨b, o, none⟩ ∧ w.cell? ⟨b, o + i, none⟩ = some (.int .i64 k)
theorem Strs.below {w w' : World} {ao : Option Addr} {L : List (List UInt8)} (h : Strs w ao L) (k : Below w.heap.size w w') : Strs w' ao L := fun i t hi => by
  obtain ⟨b, o, e, hc⟩ := h i t hi; exact ⟨b, o, e, keepC k hc⟩
theorem Ints.below {w w' : World} {ao : Option Addr} {L : List Nat} (h : Ints w ao L) (k : Below w.heap.size w w') : Ints w' ao L := fun i t hi => by
  obtain ⟨b, o, e, hc⟩ := h i t hi; exact ⟨b, o, e, keepC k hc⟩
def RowS (w : World) (B : Nat) (v : Value) (L : List (List UInt8)) : Prop := w.ownsRow B 9 1 v L.length (L.map fun t => Value.string ⟨t.toArray⟩)
def RowI (w : World) (B : Nat) (v : Value) (L : List Nat) : Prop := w.ownsRow B 3 1 v L.length (L.map fun (k : Nat) => Value.int .i64 (k : Int))
theorem RowS.read {w : World} {B : Nat} {v : Value} {L : List (List UInt8)} (h : RowS w B v L) : ∃ ao cap, v = .slice ao L.length cap ∧ Strs w ao L := by
  rcases h.2 with ⟨e, h2⟩ | ⟨g, cap, cur, h1, h2, h3, h4⟩
  · have : L = [] := List.length_eq_zero_iff.1 h2
    subst this
    exact ⟨none, 0, by simpa using e, fun i d hd => by simp at hd⟩
  · refine ⟨some ⟨g, 0, none⟩, cap, h1, fun i t hi => ⟨g, 0, rfl, ?_⟩⟩
    have := World.ownsRow.cells h (g := g) (by rw [h1]; rfl) i (.string ⟨t.toArray⟩) (by rw [List.getElem?_map, hi]; rfl)
    rw [add_zero_off] at this
    rw [Nat.zero_add]; exact this
theorem RowI.read {w : World} {B : Nat} {v : Value} {L : List Nat} (h : RowI w B v L) : ∃ ao cap, v = .slice ao L.length cap ∧ Ints w ao L := by
  rcases h.2 with ⟨e, h2⟩ | ⟨g, cap, cur, h1, h2, h3, h4⟩
  · have : L = [] := List.length_eq_zero_iff.1 h2
    subst this
    exact ⟨none, 0, by simpa using e, fun i d hd => by simp at hd⟩
  · refine ⟨some ⟨g, 0, none⟩, cap, h1, fun i t hi => ⟨g, 0, rfl, ?_⟩⟩
    have := World.ownsRow.cells h (g := g) (by rw [h1]; rfl) i (.int .i64 t) (by rw [List.getElem?_map, hi]; rfl)
    rw [add_zero_off] at this
    rw [Nat.zero_add]; exact this
theorem infoS : (Tryd.prog.info? 9).map (fun i => (i.zero, i.size, i.bytes)) = some (some (.string ⟨#[]⟩), 1, 16) := by kernel_rfl
/-- Raw words among the arguments. -/
def Raws (w : World) (ao : Option Addr) (R : List (Int × Int)) : Prop := ∀ (i : Nat) (x : Int × Int), R[i]? = some x → ∃ b o, ao = some ⟨b, o, none⟩ ∧ w.cell? ⟨b, o + i * 2, none⟩ = some (.int .i64 x.1) ∧ w.cell? ⟨b, o + i * 2 + 1, none⟩ = some (.int .i64 x.2)
theorem Raws.below {w w' : World} {ao : Option Addr} {R : List (Int × Int)} (h : Raws w ao R) (k : Below w.heap.size w w') : Raws w' ao R := fun i t hi => by
  obtain ⟨b, o, e, hc, hd⟩ := h i t hi; exact ⟨b, o, e, keepC k hc, keepC k hd⟩
def wdOf (i : Nat) (x : Int × Int) : Wd := ((pickV x.2 4).toNat, wl (1 + pickV x.1 14).toNat i)
def wdsFrom : Nat → List (Int × Int) → List Wd
  | _, [] => []
  | i, x :: r => wdOf i x :: wdsFrom (i + 1) r
theorem wdsFrom_snoc : ∀ (R : List (Int × Int)) (i : Nat) (x : Int × Int), wdsFrom i (R ++ [x]) = wdsFrom i R ++ [wdOf (i + R.length) x]
  | [], i, x => by simp [wdsFrom]
  | y :: r, i, x => by simp only [List.cons_append, wdsFrom, wdsFrom_snoc r (i + 1) x, List.length_cons]; rw [show i + 1 + r.length = i + (r.length + 1) by omega]
theorem wdsFrom_len : ∀ (R : List (Int × Int)) (i : Nat), (wdsFrom i R).length = R.length
  | [], i => rfl
  | y :: r, i => by simp [wdsFrom, wdsFrom_len r]
def wds (R : List (Int × Int)) : List Wd := wdsFrom 0 (R.take 300)
theorem pickV_rng (c n : Int) (hn : 0 < n) : 0 ≤ pickV c n ∧ pickV c n < n := ⟨Int.emod_nonneg _ (by omega), Int.emod_lt_of_pos _ hn⟩
theorem wl_ok (n which : Nat) (h0 : 0 < n) (h1 : n ≤ 65535) : wl n which ≠ [] ∧ (wl n which).length ≤ 65535 ∧ ∀ c ∈ wl n which, 33 ≤ c.toNat ∧ c.toNat ≤ 126 := by
  refine ⟨fun e => ?_, by rw [wl_len]; exact h1, fun c hc => ?_⟩
  · have := wl_len n which; rw [e] at this; simp at this; omega
  · obtain ⟨i, _, rfl⟩ := List.mem_map.1 hc
    have : (97 + (which + i) % 26) < 256 := by omega
    simp [Nat.mod_eq_of_lt this]; omega
theorem wdsFrom_ok : ∀ (R : List (Int × Int)) (i : Nat), LetP (wdsFrom i R)
  | [], i => fun x hx => by simp [wdsFrom] at hx
  | y :: r, i => fun x hx => by
    simp only [wdsFrom, List.mem_cons] at hx
    rcases hx with rfl | hx
    · have h1 := pickV_rng y.2 4 (by decide)
      have h2 := pickV_rng y.1 14 (by decide)
      have h3 := wl_ok (1 + pickV y.1 14).toNat i (by omega) (by omega)
      exact ⟨h3.1, by show (pickV y.2 4).toNat ≤ 1000; omega, h3.2.1, h3.2.2⟩
    · exact wdsFrom_ok r (i + 1) x hx
theorem own_lt {w : World} {base : Nat} {e : TypeId} {size : Nat} {v : Value} {n : Nat} {xs : List Value} (h : w.ownsRow base e size v n xs) : ∀ k, v.ownBlock = some k → base ≤ k ∧ k < w.heap.size := World.ownsRow.lt h
def WordsPost (R : List (Int × Int)) (e : Ending) (w' : World) : Prop := ∃ a1 c1 a2 c2, e = .returned (.tuple #[.slice a1 (wds R).length c1, .slice a2 (wds R).length c2]) ∧ Strs w' a1 ((wds R).map (·.2)) ∧ Ints w' a2 ((wds R).map (·.1))
theorem WordsPost.mk {R : List (Int × Int)} {w' : World} (a1 : Option Addr) (c1 : Nat) (a2 : Option Addr) (c2 : Nat) (h1 : Strs w' a1 ((wds R).map (·.2))) (h2 : Ints w' a2 ((wds R).map (·.1))) : WordsPost R (.returned (.tuple #[.slice a1 (wds R).length c1, .slice a2 (wds R).length c2])) w' := ⟨a1, c1, a2, c2, rfl, h1, h2⟩
set_option maxHeartbeats 4000000 in
set_option maxRecDepth 100000 in
theorem l8_words (ao : Option Addr) (cap : Nat) (R : List (Int × Int)) (w : World) (hR : Raws w ao R) (hl : R.length ≤ 1048576) (hwf : ∀ x ∈ R, (-9223372036854775808 ≤ x.1 ∧ x.1 ≤ 9223372036854775807) ∧ (-9223372036854775808 ≤ x.2 ∧ x.2 ≤ 9223372036854775807)) :
    Calls Tryd.prog 33 #[.slice ao R.length cap] w fun e w' => WordsPost R e w' ∧ Below w.heap.size w w' := by
  replace hR := Lib.hid hR; replace hwf := Lib.hid hwf
  go_enter Tryd.func33, Tryd.ntmps33
  go_wp2_with fail
  go_loopw [4, 5, 6] (fun sv gv iv W => ∃ (i : Nat) (v4 v5 : Value), iv = .int .i64 i ∧ v4 = sv ∧ v5 = gv ∧ i ≤ R.length ∧ i ≤ 300 ∧ Hid (RowS W w.heap.size v4 ((wdsFrom 0 (R.take i)).map (·.2))) ∧ Hid (RowI W w.heap.size v5 ((wdsFrom 0 (R.take i)).map (·.1))) ∧ Hid (∀ k, v4.ownBlock = some k → ¬ v5.ownBlock = some k) ∧ Hid (Below w.heap.size w W)) (fun _ _ iv _ => 300 - (RowKit.intOf iv).toNat)
  case atStart => exact ⟨0, _, _, rfl, rfl, rfl, by omega, by omega, Lib.hid (World.ownsRow_nil _ _ _ _), Lib.hid (World.ownsRow_nil _ _ _ _), Lib.hid (fun k h => by cases h), Lib.hid (Below.refl _ _)⟩
  case round =>
    obtain ⟨i, v4, v5, rfl, rfl, rfl, hi, hi3, h4, h5, hdj, hb⟩ := hrel
    have hbz := hb.out.size
    by_cases hlt : i < R.length ∧ i < 300
    · obtain ⟨hlt, hlt3⟩ := hlt
      obtain ⟨x, hx⟩ : ∃ x, R[i]? = some x := ⟨_, List.getElem?_eq_getElem hlt⟩
      obtain ⟨bl, of, rfl, c0, c1⟩ := (hR.out.below hb.out) i x hx
      have hwx := hwf.out x (List.mem_of_getElem? hx)
      have hi1 : (i : Int) < R.length := by omega
      have hi2 : (0 : Int) ≤ i := by omega
      have hi4 : (i : Int) < 300 := by omega
      have wi : IntKind.i64.wrap ((i : Int) + 1) = i + 1 := IntWalk.i64_in _ (by omega)
      have hmeas : 300 - (RowKit.intOf (.int .i64 ((i : Int) + 1))).toNat < 300 - (RowKit.intOf (.int .i64 (i : Int))).toNat := by simp [RowKit.intOf]; omega
      have hp1 := pickV_rng x.1 14 (by decide)
      have hp2 := pickV_rng x.2 4 (by decide)
      obtain ⟨m, hm⟩ : ∃ m : Nat, 1 + pickV x.1 14 = m := ⟨(1 + pickV x.1 14).toNat, by omega⟩
      obtain ⟨g, hg⟩ : ∃ g : Nat, pickV x.2 4 = g := ⟨(pickV x.2 4).toNat, by omega⟩
      have hwd : wdOf i x = (g, wl m i) := by unfold wdOf; rw [hm, hg]; simp
      have htl : (R.take i).length = i := by rw [List.length_take]; omega
      have hsn : wdsFrom 0 (R.take (i + 1)) = wdsFrom 0 (R.take i) ++ [(g, wl m i)] := by
        rw [List.take_succ_eq_append_getElem hlt, wdsFrom_snoc, htl, Nat.zero_add]
        rw [List.getElem?_eq_getElem hlt] at hx
        rw [Option.some.inj hx, hwd]
      obtain ⟨Q, hQ⟩ : ∃ Q, wdsFrom 0 (R.take i) = Q := ⟨_, rfl⟩
      have hQl : Q.length = i := by rw [← hQ, wdsFrom_len, htl]
      rw [hQ] at h4 h5 hsn
      have hww : IntKind.i64.wrap (1 + pickV x.1 14) = m := by rw [hm]; exact IntWalk.i64_in _ (by omega)
      have hword := fun W' => l8_word m i W' (by omega) (by omega)
      have hbl : bl < w.heap.size := by
        obtain ⟨b', o', e', h0, _⟩ := hR.out i x hx
        cases e'; exact cell_lt h0
      rw [hg] at hp2
      replace hsn := Lib.hid hsn; replace hQ := Lib.hid hQ; replace hwd := Lib.hid hwd; replace htl := Lib.hid htl; replace hx := Lib.hid hx; replace hm := Lib.hid hm; replace hword := Lib.hid hword; replace hg := Lib.hid hg; replace hQl := Lib.hid hQl
      go_wp2_with fail
      refine (l8_pick x.1 14 _ (by decide) hwx.1).mono ?_
      rintro e w1 ⟨rfl, rfl⟩
      go_wp2_with fail
      refine (hword.out _).mono ?_
      rintro e w2 ⟨rfl, b2⟩
      have h4' := row_below h4.out b2
      have h5' := row_below h5.out b2
      have hb2 := Lib.hid (hb.out.trans (b2.mono hbz))
      have hz2 := hb2.out.size
      have hlen4 : (Q.map (·.2)).length = i := by simp [hQl.out]
      have hlen5 : (Q.map (·.1)).length = i := by simp [hQl.out]
      replace h4' := Lib.hid h4'; replace h5' := Lib.hid h5'
      have c1' := keepC b2 c1
      clear h4 h5 hb b2
      go_wp2_with (at_builtin; refine app_at rfl (.tmp 17) (.tmp 27) 55 9 rfl w.heap.size Tryd.underlying55 infoS rfl (by decide) rfl (World.ownsRow.alloc h4'.out _) ⟨w2.heap.size, 0, none⟩ 1 1 [.string ⟨(wl m i).toArray⟩] rfl rfl (fun j u hj => by rw [add_zero_off, (Blk.new w2 _ _).cell j]; simpa using hj) (by simp [Value.oneCell']) (by omega) (by omega) (by simp; omega) ?_; intro v6 w6 hv6 hg6 hn6; have c1'' := cell_kept (keepC ((Below.refl _ _).alloc (Nat.le_refl _) (.cells #[.string ⟨(wl m i).toArray⟩] 9)) c1') (kept_of_grown hg6) (fun e => by have := (own_lt h4'.out _ e).1; omega))
      have hk6 := kept_of_grown hg6
      have hb6 := (Below.refl w.heap.size w2 |>.alloc hz2 (.cells #[.string ⟨(wl m i).toArray⟩] 9)).trans (hk6.below (by simp; omega) (fun j e => (own_lt h4'.out j e).1))
      have h5'' := row_kept (World.ownsRow.alloc h5'.out (.cells #[.string ⟨(wl m i).toArray⟩] 9)) hk6 (fun k e e2 => hdj.out k e2 e)
      have hdj2 : ∀ k, v6.ownBlock = some k → ¬ v5.ownBlock = some k := fun k e e2 => by
        rcases hn6 k e with e3 | e3
        · exact hdj.out k e3 e2
        · have := (own_lt h5'.out k e2).2
          simp at e3; omega
      have h6' : RowS w6 w.heap.size v6 (Q.map (·.2) ++ [wl m i]) := by
        unfold RowS; rw [List.length_append, List.map_append]; exact hv6
      have hb6' := Lib.hid (hb2.out.trans hb6)
      have hz6 := hb6'.out.size
      replace h5'' := Lib.hid h5''; replace h6' := Lib.hid h6'; replace hdj2 := Lib.hid hdj2
      clear hk6 hv6 hg6 hn6 hb6 h4' h5' hdj hb2
      refine (l8_pick x.2 4 _ (by decide) hwx.2).mono ?_
      rintro e w7 ⟨rfl, rfl⟩
      rw [hg.out]
      go_wp2_with (at_builtin; refine app_at rfl (.tmp 29) (.tmp 36) 56 3 rfl w.heap.size Tryd.underlying56 infoI rfl (by decide) rfl (World.ownsRow.alloc h5''.out _) ⟨w7.heap.size, 0, none⟩ 1 1 [.int .i64 g] rfl rfl (fun j u hj => by rw [add_zero_off, (Blk.new w7 _ _).cell j]; simpa using hj) (by simp [Value.oneCell']) (by omega) (by omega) (by simp; omega) ?_; intro v8 w8 hv8 hg8 hn8)
      have hk8 := kept_of_grown hg8
      have hb8 := (Below.refl w.heap.size w7 |>.alloc hz6 (.cells #[.int .i64 g] 3)).trans (hk8.below (by simp; omega) (fun j e => (own_lt h5''.out j e).1))
      have h6'' := row_kept (World.ownsRow.alloc h6'.out (.cells #[.int .i64 g] 3)) hk8 (fun k e e2 => hdj2.out k e e2)
      have hdj3 : ∀ k, v6.ownBlock = some k → ¬ v8.ownBlock = some k := fun k e e2 => by
        rcases hn8 k e2 with e3 | e3
        · exact hdj2.out k e e3
        · have := (own_lt h6'.out k e).2
          simp at e3; omega
      have h8' : RowI w8 w.heap.size v8 (Q.map (·.1) ++ [g]) := by
        unfold RowI; rw [List.length_append, List.map_append]; exact hv8
      refine ⟨⟨i + 1, v6, v8, by go_num, rfl, rfl, by omega, by omega, Lib.hid ?_, Lib.hid ?_, Lib.hid hdj3, Lib.hid (hb6'.out.trans hb8)⟩, hmeas⟩
      · rw [hsn.out, List.map_append]; exact h6''
      · rw [hsn.out, List.map_append]; exact h8'
    · have hend : (R.take i) = R.take 300 := by
        by_cases h : i < R.length
        · have : i = 300 := by omega
          rw [this]
        · rw [List.take_of_length_le (by omega), List.take_of_length_le (by omega)]
      rw [hend] at h4 h5
      obtain ⟨a4, c4, rfl, hs4⟩ := RowS.read h4.out
      obtain ⟨a5, c5, rfl, hs5⟩ := RowI.read h5.out
      have hL4 : ((wdsFrom 0 (R.take 300)).map (·.2)).length = (wds R).length := by simp [wds]
      have hL5 : ((wdsFrom 0 (R.take 300)).map (·.1)).length = (wds R).length := by simp [wds]
      rw [hL4, hL5]
      replace hs4 := Lib.hid hs4; replace hs5 := Lib.hid hs5; replace hL4 := Lib.hid hL4; replace hL5 := Lib.hid hL5; replace hend := Lib.hid hend
      clear h4 h5 hdj
      by_cases h : i < R.length
      · have hi1 : (i : Int) < R.length := by omega
        have hi3' : ¬ (i : Int) < 300 := by omega
        replace hlt := Lib.hid hlt
        go_wp2_with fail
        go_ret2
        exact ⟨WordsPost.mk a4 c4 a5 c5 hs4.out hs5.out, hb.out⟩
      · have hi1 : ¬ (i : Int) < R.length := by omega
        replace hlt := Lib.hid hlt
        go_wp2_with fail
        go_ret2
        exact ⟨WordsPost.mk a4 c4 a5 c5 hs4.out hs5.out, hb.out⟩
theorem data_app8 (a b : ByteArray) : (a ++ b).data.toList = a.data.toList ++ b.data.toList := by simp [ByteArray.data_append]
theorem fillP_drop (n : Int) (inn : Nat) (g : Nat) (wd : List UInt8) (r : List Wd) (a : Nat) : fillT n inn a ((g, wd) :: r) = if n < (a : Int) + g + wd.length then 10 :: List.replicate inn 32 ++ wd ++ fillT n inn (inn + wd.length) r else List.replicate g 32 ++ wd ++ fillT n inn (a + g + wd.length) r := rfl
/-- So far. -/
def FillSt (n : Int) (inn : Nat) (P : List Wd) (i : Nat) (l : List UInt8) (a : Nat) : Prop := (i = 0 → l = [] ∧ a = 0) ∧ (0 < i → l ++ fillT n inn a (P.drop i) = fillP n inn P) ∧ l.length ≤ i * 70000 ∧ a ≤ i * 70000
set_option maxHeartbeats 8000000 in
set_option maxRecDepth 100000 in
theorem l8_filled (n : Int) (inn : Nat) (a1 : Option Addr) (c1 : Nat) (a2 : Option Addr) (c2 : Nat) (P : List Wd) (w : World) (h1 : Strs w a1 (P.map (·.2))) (h2 : Ints w a2 (P.map (·.1))) (hP : LetP P) (hl : P.length ≤ 300) (hn : -1 ≤ n ∧ n ≤ 1048576000) (hin : inn ≤ 1000) :
    Calls Tryd.prog 36 #[.int .i64 n, .int .i64 inn, .slice a1 P.length c1, .slice a2 P.length c2] w fun e w' => e = .returned (.string ⟨(fillP n inn P).toArray⟩) ∧ Below w.heap.size w w' := by
  obtain ⟨X, hX⟩ : ∃ X, fillP n inn P = X := ⟨_, rfl⟩
  rw [hX]
  replace h1 := Lib.hid h1; replace h2 := Lib.hid h2; replace hP := Lib.hid hP; replace hX := Lib.hid hX
  go_enter Tryd.func36, Tryd.ntmps36
  go_wp2_with fail
  go_loopw [9, 10, 11] (fun sv av iv W => ∃ (i a : Nat) (S : ByteArray), .string S = sv ∧ .int .i64 (a : Int) = av ∧ .int .i64 (i : Int) = iv ∧ i ≤ P.length ∧ Hid (FillSt n inn P i S.data.toList a) ∧ Hid (Below w.heap.size w W)) (fun _ _ iv _ => P.length - (RowKit.intOf iv).toNat)
  case atStart => exact ⟨0, 0, ⟨#[]⟩, rfl, rfl, rfl, by omega, Lib.hid ⟨fun _ => ⟨rfl, rfl⟩, fun h => absurd h (by decide), by simp, by omega⟩, Lib.hid (Below.refl _ _)⟩
  case round =>
    obtain ⟨i, a, S, rfl, rfl, rfl, hi, hS, hb⟩ := hrel
    have hbz := hb.out.size
    have hSl : S.data.toList.length = S.size := Array.length_toList
    obtain ⟨s1, s2, s3, s4⟩ := hS.out
    rw [hSl] at s3
    by_cases hlt : i < P.length
    · obtain ⟨⟨g, wd⟩, hx⟩ : ∃ x, P[i]? = some x := ⟨_, List.getElem?_eq_getElem hlt⟩
      have hdr : P.drop i = (g, wd) :: P.drop (i + 1) := by
        have := List.drop_eq_getElem_cons hlt
        rw [List.getElem?_eq_getElem hlt] at hx
        rw [this, Option.some.inj hx]
      obtain ⟨hne, hg, hwl, _⟩ := hP.out (g, wd) (List.mem_of_getElem? hx)
      obtain ⟨b1, o1, rfl, q1⟩ := (h1.out.below hb.out) i wd (by rw [List.getElem?_map, hx]; rfl)
      obtain ⟨b2, o2, rfl, q2⟩ := (h2.out.below hb.out) i g (by rw [List.getElem?_map, hx]; rfl)
      have hws := size_arr wd
      simp only at hg hwl hne
      have hi1 : (i : Int) < P.length := by omega
      have hi2 : (0 : Int) ≤ i := by omega
      have wi : IntKind.i64.wrap ((i : Int) + 1) = i + 1 := IntWalk.i64_in _ (by omega)
      have hmeas : P.length - (RowKit.intOf (.int .i64 ((i : Int) + 1))).toNat < P.length - (RowKit.intOf (.int .i64 (i : Int))).toNat := by simp [RowKit.intOf]; omega
      have hz9 : ¬ 9223372036854775807 < S.size + wd.length := by omega
      have wa : IntKind.i64.wrap ((a : Int) + wd.length) = a + wd.length := IntWalk.i64_in _ (by omega)
      by_cases hi0 : i = 0
      · obtain ⟨e1, e2⟩ := s1 hi0
        have hi0' : ¬ (0 : Int) < i := by omega
        have hnew : FillSt n inn P (i + 1) (S ++ ⟨wd.toArray⟩).data.toList (a + wd.length) := by
          rw [data_app8, e1, toList_arr, e2]
          rw [hi0] at hdr ⊢
          refine ⟨fun h => by omega, fun _ => ?_, by simp; omega, by omega⟩
          have hP0 : P = (g, wd) :: P.drop 1 := by simpa using hdr
          rw [hP0]; simp [fillP]
        replace hnew := Lib.hid hnew; replace hx := Lib.hid hx; replace hdr := Lib.hid hdr; replace hSl := Lib.hid hSl; replace e1 := Lib.hid e1; replace e2 := Lib.hid e2; replace hi0 := Lib.hid hi0; replace hne := Lib.hid hne
        clear s1 s2 hS
        go_wp2_with fail
        exact ⟨⟨i + 1, a + wd.length, S ++ ⟨wd.toArray⟩, rfl, by go_num, by go_num, by omega, hnew, hb⟩, hmeas⟩
      · have hi0' : (0 : Int) < i := by omega
        have hs2 := s2 (by omega)
        rw [hdr, fillP_drop] at hs2
        have w1 : IntKind.i64.wrap ((a : Int) + g) = a + g := IntWalk.i64_in _ (by omega)
        have w2 : IntKind.i64.wrap ((a : Int) + g + wd.length) = a + g + wd.length := IntWalk.i64_in _ (by omega)
        clear hi0
        by_cases hc : n < (a : Int) + g + wd.length
        · rw [if_pos hc] at hs2
          have hnew : ∀ S2 : ByteArray, S2.data.toList = S.data.toList ++ 10 :: List.replicate inn 32 → FillSt n inn P (i + 1) (S2 ++ ⟨wd.toArray⟩).data.toList (inn + wd.length) := fun S2 h => by
            rw [data_app8, h, toList_arr]
            refine ⟨fun h => by omega, fun _ => ?_, by simp [hSl]; omega, by omega⟩
            rw [← hs2]; simp [List.append_assoc]
          have hz10 : ¬ 9223372036854775807 < S.size + 1 := by omega
          have hword := fun W' => l8_word inn 0 W' (by omega) (by omega)
          have hin0 : (0 : Int) ≤ inn := by omega
          replace hnew := Lib.hid hnew; replace hx := Lib.hid hx; replace hdr := Lib.hid hdr; replace hs2 := Lib.hid hs2; replace hne := Lib.hid hne; replace hword := Lib.hid hword; replace hSl := Lib.hid hSl
          clear s1 s2 hS
          go_wp2_with fail
          refine wp_region_late (fun w' => w'.cell? ⟨b2, o2 + i, none⟩ = some (.int .i64 g) ∧ w'.cell? ⟨b1, o1 + i, none⟩ = some (.string ⟨wd.toArray⟩)) 13 (by kernel_rfl) (by first | go_keep | (dsimp only; go_keep)) (fun hHeld => ?_)
          refine wpLate_take (i := 0) (v := ?_) rfl (by kernel_rfl) (fun _ _ _ h => h) (Or.inl ⟨by rfl, ?_⟩) hHeld ?_
          rotate_left
          · (intro w hSw; (try dsimp only at hSw); go_simp; try with_reducible rfl)
          simp only [Act.put, List.setIfInBounds_toArray, List.set_cons_zero, List.set_cons_succ]
          refine wpLate_take (i := 1) (v := ?_) rfl (by kernel_rfl) (fun _ _ _ h => h) (Or.inl ⟨by rfl, ?_⟩) hHeld ?_
          rotate_left
          · (intro w hSw; (try dsimp only at hSw); go_simp; try with_reducible rfl)
          simp only [Act.put, List.setIfInBounds_toArray, List.set_cons_zero, List.set_cons_succ]
          refine wpLate_take (i := 2) (v := ?_) rfl (by kernel_rfl) (fun _ _ _ h => h) (Or.inl ⟨by rfl, ?_⟩) hHeld ?_
          rotate_left
          · (intro w hSw; (try dsimp only at hSw); go_simp; try with_reducible rfl)
          simp only [Act.put, List.setIfInBounds_toArray, List.set_cons_zero, List.set_cons_succ]
          refine wpLate_take (i := 3) (v := ?_) rfl (by kernel_rfl) (fun _ _ _ h => h) (Or.inl ⟨by rfl, ?_⟩) hHeld ?_
          rotate_left
          · (intro w hSw; (try dsimp only at hSw); go_simp; try with_reducible rfl)
          simp only [Act.put, List.setIfInBounds_toArray, List.set_cons_zero, List.set_cons_succ]
          refine wpLate_take (i := 4) (v := ?_) rfl (by kernel_rfl) (fun _ _ _ h => h) (Or.inl ⟨by rfl, ?_⟩) hHeld ?_
          rotate_left
          · (intro w hSw; (try dsimp only at hSw); go_simp; try with_reducible rfl)
          simp only [Act.put, List.setIfInBounds_toArray, List.set_cons_zero, List.set_cons_succ]
          refine wpLate_take (i := 5) (v := ?_) rfl (by kernel_rfl) (fun _ _ _ h => h) (Or.inl ⟨by rfl, ?_⟩) hHeld ?_
          rotate_left
          · (intro w hSw; (try dsimp only at hSw); go_simp; try with_reducible rfl)
          simp only [Act.put, List.setIfInBounds_toArray, List.set_cons_zero, List.set_cons_succ]
          refine wpLate_take (i := 6) (v := ?_) rfl (by kernel_rfl) (fun _ _ _ h => h) (Or.inl ⟨by rfl, ?_⟩) hHeld ?_
          rotate_left
          · (intro w hSw; (try dsimp only at hSw); go_simp; try with_reducible rfl)
          simp only [Act.put, List.setIfInBounds_toArray, List.set_cons_zero, List.set_cons_succ]
          refine wpLate_take (i := 7) (v := ?_) rfl (by kernel_rfl) (fun _ _ _ h => h) (Or.inl ⟨by rfl, ?_⟩) hHeld ?_
          rotate_left
          · (intro w hSw; (try dsimp only at hSw); go_simp; try with_reducible rfl)
          simp only [Act.put, List.setIfInBounds_toArray, List.set_cons_zero, List.set_cons_succ]
          refine wpLate_take (i := 8) (v := ?_) rfl (by kernel_rfl) (fun _ _ _ h => h) (Or.inl ⟨by rfl, ?_⟩) hHeld ?_
          rotate_left
          · (intro w hSw; (try dsimp only at hSw); go_simp; try with_reducible rfl)
          simp only [Act.put, List.setIfInBounds_toArray, List.set_cons_zero, List.set_cons_succ]
          refine wpLate_take (i := 9) (v := ?_) rfl (by kernel_rfl) (fun _ _ _ h => h) (Or.inl ⟨by rfl, ?_⟩) hHeld ?_
          rotate_left
          · (intro w hSw; (try dsimp only at hSw); go_simp; try with_reducible rfl)
          simp only [Act.put, List.setIfInBounds_toArray, List.set_cons_zero, List.set_cons_succ]
          refine wpLate_take (i := 10) (v := ?_) rfl (by kernel_rfl) (fun _ _ _ h => h) (Or.inl ⟨by rfl, ?_⟩) hHeld ?_
          rotate_left
          · (intro w hSw; (try dsimp only at hSw); go_simp; try with_reducible rfl)
          simp only [Act.put, List.setIfInBounds_toArray, List.set_cons_zero, List.set_cons_succ]
          refine wpLate_take (i := 11) (v := ?_) rfl (by kernel_rfl) (fun _ _ _ h => h) (Or.inl ⟨by rfl, ?_⟩) hHeld ?_
          rotate_left
          · (intro w hSw; (try dsimp only at hSw); go_simp; try with_reducible rfl)
          simp only [Act.put, List.setIfInBounds_toArray, List.set_cons_zero, List.set_cons_succ]
          refine wpLate_take (i := 12) (v := ?_) rfl (by kernel_rfl) (fun _ _ _ h => h) (Or.inl ⟨by rfl, ?_⟩) hHeld ?_
          rotate_left
          · (intro w hSw; (try dsimp only at hSw); go_simp; try with_reducible rfl)
          simp only [Act.put, List.setIfInBounds_toArray, List.set_cons_zero, List.set_cons_succ]
          refine wpLate_last (by kernel_rfl) rfl (by kernel_rfl) (fun K hK => ?_)
          go_simp
          refine hK.out _ _ ?_
          clear hK K
          go_wp2_with fail
          refine (hword.out _).mono ?_
          rintro e w2 ⟨rfl, b2'⟩
          have hb2 := Lib.hid (hb.out.trans (((Below.refl _ wr).drew.trans b2').mono hbz))
          have q1' := keepC b2' q1; have q2' := keepC b2' q2
          go_wp2_with fail
          go_loop [9, 12] (fun sv kv => ∃ (k : Nat) (S2 : ByteArray), .int .i64 (k : Int) = kv ∧ .string S2 = sv ∧ k ≤ inn ∧ Hid (S2.data.toList = S.data.toList ++ 10 :: List.replicate k 32)) (fun _ kv => inn - (RowKit.intOf kv).toNat)
          case atStart => exact ⟨0, _, rfl, rfl, by omega, Lib.hid (by rw [data_app8]; rfl)⟩
          case round =>
            obtain ⟨k, S2, rfl, rfl, hk, hS2⟩ := hrel
            have hS2l : S2.size = S.size + 1 + k := by
              have h1 : S2.data.toList.length = S2.size := Array.length_toList
              rw [hS2.out] at h1
              have h2 := hSl.out
              simp at h1 h2; omega
            have hz11 : ¬ 9223372036854775807 < S2.size + 1 := by omega
            have hz12 : ¬ 9223372036854775807 < S2.size + wd.length := by omega
            by_cases hkt : k < inn
            · have hk1 : (k : Int) < inn := by omega
              have hk2 : (0 : Int) ≤ k := by omega
              have wk : IntKind.i64.wrap ((k : Int) + 1) = k + 1 := IntWalk.i64_in _ (by omega)
              have hms : inn - (RowKit.intOf (.int .i64 ((k : Int) + 1))).toNat < inn - (RowKit.intOf (.int .i64 (k : Int))).toNat := by simp [RowKit.intOf]; omega
              have hn2 : (S2 ++ ⟨#[32]⟩).data.toList = S.data.toList ++ 10 :: List.replicate (k + 1) 32 := by
                rw [data_app8, hS2.out, List.replicate_succ']; simp
              replace hn2 := Lib.hid hn2
              clear hS2l
              go_wp2_with fail
              exact ⟨⟨k + 1, S2 ++ ⟨#[32]⟩, by go_num, rfl, by omega, hn2⟩, hms⟩
            · have hk1 : ¬ (k : Int) < inn := by omega
              have hke : k = inn := by omega
              have hS3 := hS2.out
              rw [hke] at hS3
              have hn3 := Lib.hid (hnew.out S2 hS3)
              have wc : IntKind.i64.wrap ((inn : Int) + wd.length) = inn + wd.length := IntWalk.i64_in _ (by omega)
              replace hke := Lib.hid hke
              clear hS2 hS2l hS3
              go_wp2_with fail
              exact ⟨⟨i + 1, inn + wd.length, S2 ++ ⟨wd.toArray⟩, rfl, by go_num, by go_num, by omega, hn3, hb2⟩, hmeas⟩
        · rw [if_neg hc] at hs2
          have hnew : ∀ S2 : ByteArray, S2.data.toList = S.data.toList ++ List.replicate g 32 → FillSt n inn P (i + 1) (S2 ++ ⟨wd.toArray⟩).data.toList (a + g + wd.length) := fun S2 h => by
            rw [data_app8, h, toList_arr]
            refine ⟨fun h => by omega, fun _ => ?_, by simp [hSl]; omega, by omega⟩
            rw [← hs2]; simp [List.append_assoc]
          have hg0 : (0 : Int) ≤ g := by omega
          replace hnew := Lib.hid hnew; replace hx := Lib.hid hx; replace hdr := Lib.hid hdr; replace hs2 := Lib.hid hs2; replace hne := Lib.hid hne; replace hSl := Lib.hid hSl
          clear s1 s2 hS
          go_wp2_with fail
          refine wp_region_late (fun w' => w'.cell? ⟨b2, o2 + i, none⟩ = some (.int .i64 g) ∧ w'.cell? ⟨b1, o1 + i, none⟩ = some (.string ⟨wd.toArray⟩)) 13 (by kernel_rfl) (by first | go_keep | (dsimp only; go_keep)) (fun hHeld => ?_)
          refine wpLate_take (i := 0) (v := ?_) rfl (by kernel_rfl) (fun _ _ _ h => h) (Or.inl ⟨by rfl, ?_⟩) hHeld ?_
          rotate_left
          · (intro w hSw; (try dsimp only at hSw); go_simp; try with_reducible rfl)
          simp only [Act.put, List.setIfInBounds_toArray, List.set_cons_zero, List.set_cons_succ]
          refine wpLate_take (i := 1) (v := ?_) rfl (by kernel_rfl) (fun _ _ _ h => h) (Or.inl ⟨by rfl, ?_⟩) hHeld ?_
          rotate_left
          · (intro w hSw; (try dsimp only at hSw); go_simp; try with_reducible rfl)
          simp only [Act.put, List.setIfInBounds_toArray, List.set_cons_zero, List.set_cons_succ]
          refine wpLate_take (i := 2) (v := ?_) rfl (by kernel_rfl) (fun _ _ _ h => h) (Or.inl ⟨by rfl, ?_⟩) hHeld ?_
          rotate_left
          · (intro w hSw; (try dsimp only at hSw); go_simp; try with_reducible rfl)
          simp only [Act.put, List.setIfInBounds_toArray, List.set_cons_zero, List.set_cons_succ]
          refine wpLate_take (i := 3) (v := ?_) rfl (by kernel_rfl) (fun _ _ _ h => h) (Or.inl ⟨by rfl, ?_⟩) hHeld ?_
          rotate_left
          · (intro w hSw; (try dsimp only at hSw); go_simp; try with_reducible rfl)
          simp only [Act.put, List.setIfInBounds_toArray, List.set_cons_zero, List.set_cons_succ]
          refine wpLate_take (i := 4) (v := ?_) rfl (by kernel_rfl) (fun _ _ _ h => h) (Or.inl ⟨by rfl, ?_⟩) hHeld ?_
          rotate_left
          · (intro w hSw; (try dsimp only at hSw); go_simp; try with_reducible rfl)
          simp only [Act.put, List.setIfInBounds_toArray, List.set_cons_zero, List.set_cons_succ]
          refine wpLate_take (i := 5) (v := ?_) rfl (by kernel_rfl) (fun _ _ _ h => h) (Or.inl ⟨by rfl, ?_⟩) hHeld ?_
          rotate_left
          · (intro w hSw; (try dsimp only at hSw); go_simp; try with_reducible rfl)
          simp only [Act.put, List.setIfInBounds_toArray, List.set_cons_zero, List.set_cons_succ]
          refine wpLate_take (i := 6) (v := ?_) rfl (by kernel_rfl) (fun _ _ _ h => h) (Or.inl ⟨by rfl, ?_⟩) hHeld ?_
          rotate_left
          · (intro w hSw; (try dsimp only at hSw); go_simp; try with_reducible rfl)
          simp only [Act.put, List.setIfInBounds_toArray, List.set_cons_zero, List.set_cons_succ]
          refine wpLate_take (i := 7) (v := ?_) rfl (by kernel_rfl) (fun _ _ _ h => h) (Or.inl ⟨by rfl, ?_⟩) hHeld ?_
          rotate_left
          · (intro w hSw; (try dsimp only at hSw); go_simp; try with_reducible rfl)
          simp only [Act.put, List.setIfInBounds_toArray, List.set_cons_zero, List.set_cons_succ]
          refine wpLate_take (i := 8) (v := ?_) rfl (by kernel_rfl) (fun _ _ _ h => h) (Or.inl ⟨by rfl, ?_⟩) hHeld ?_
          rotate_left
          · (intro w hSw; (try dsimp only at hSw); go_simp; try with_reducible rfl)
          simp only [Act.put, List.setIfInBounds_toArray, List.set_cons_zero, List.set_cons_succ]
          refine wpLate_take (i := 9) (v := ?_) rfl (by kernel_rfl) (fun _ _ _ h => h) (Or.inl ⟨by rfl, ?_⟩) hHeld ?_
          rotate_left
          · (intro w hSw; (try dsimp only at hSw); go_simp; try with_reducible rfl)
          simp only [Act.put, List.setIfInBounds_toArray, List.set_cons_zero, List.set_cons_succ]
          refine wpLate_take (i := 10) (v := ?_) rfl (by kernel_rfl) (fun _ _ _ h => h) (Or.inl ⟨by rfl, ?_⟩) hHeld ?_
          rotate_left
          · (intro w hSw; (try dsimp only at hSw); go_simp; try with_reducible rfl)
          simp only [Act.put, List.setIfInBounds_toArray, List.set_cons_zero, List.set_cons_succ]
          refine wpLate_take (i := 11) (v := ?_) rfl (by kernel_rfl) (fun _ _ _ h => h) (Or.inl ⟨by rfl, ?_⟩) hHeld ?_
          rotate_left
          · (intro w hSw; (try dsimp only at hSw); go_simp; try with_reducible rfl)
          simp only [Act.put, List.setIfInBounds_toArray, List.set_cons_zero, List.set_cons_succ]
          refine wpLate_take (i := 12) (v := ?_) rfl (by kernel_rfl) (fun _ _ _ h => h) (Or.inl ⟨by rfl, ?_⟩) hHeld ?_
          rotate_left
          · (intro w hSw; (try dsimp only at hSw); go_simp; try with_reducible rfl)
          simp only [Act.put, List.setIfInBounds_toArray, List.set_cons_zero, List.set_cons_succ]
          refine wpLate_last (by kernel_rfl) rfl (by kernel_rfl) (fun K hK => ?_)
          go_simp
          refine hK.out _ _ ?_
          clear hK K
          have hb2 := Lib.hid (hb.out.drew)
          obtain ⟨WD, hWD⟩ : ∃ WD, wr.drew = WD := ⟨_, rfl⟩
          rw [hWD] at hb2 hHeld ⊢
          obtain ⟨q2', q1'⟩ := hHeld
          clear hWD
          go_wp2_with fail
          go_loop [9, 13] (fun sv kv => ∃ (k : Nat) (S2 : ByteArray), .int .i64 (k : Int) = kv ∧ .string S2 = sv ∧ k ≤ g ∧ Hid (S2.data.toList = S.data.toList ++ List.replicate k 32)) (fun _ kv => g - (RowKit.intOf kv).toNat)
          case atStart => exact ⟨0, _, rfl, rfl, by omega, Lib.hid (by simp)⟩
          case round =>
            obtain ⟨k, S2, rfl, rfl, hk, hS2⟩ := hrel
            have hS2l : S2.size = S.size + k := by
              have h1 : S2.data.toList.length = S2.size := Array.length_toList
              rw [hS2.out] at h1
              have h2 := hSl.out
              simp at h1 h2; omega
            have hz11 : ¬ 9223372036854775807 < S2.size + 1 := by omega
            have hz12 : ¬ 9223372036854775807 < S2.size + wd.length := by omega
            by_cases hkt : k < g
            · have hk1 : (k : Int) < g := by omega
              have hk2 : (0 : Int) ≤ k := by omega
              have wk : IntKind.i64.wrap ((k : Int) + 1) = k + 1 := IntWalk.i64_in _ (by omega)
              have hms : g - (RowKit.intOf (.int .i64 ((k : Int) + 1))).toNat < g - (RowKit.intOf (.int .i64 (k : Int))).toNat := by simp [RowKit.intOf]; omega
              have hn2 : (S2 ++ ⟨#[32]⟩).data.toList = S.data.toList ++ List.replicate (k + 1) 32 := by
                rw [data_app8, hS2.out, List.replicate_succ']; simp
              replace hn2 := Lib.hid hn2
              clear hS2l
              go_wp2_with fail
              exact ⟨⟨k + 1, S2 ++ ⟨#[32]⟩, by go_num, rfl, by omega, hn2⟩, hms⟩
            · have hk1 : ¬ (k : Int) < g := by omega
              have hke : k = g := by omega
              have hS3 := hS2.out
              rw [hke] at hS3
              have hn3 := Lib.hid (hnew.out S2 hS3)
              replace hke := Lib.hid hke
              clear hS2 hS2l hS3
              go_wp2_with fail
              exact ⟨⟨i + 1, a + g + wd.length, S2 ++ ⟨wd.toArray⟩, rfl, by go_num, by go_num, by omega, hn3, hb2⟩, hmeas⟩
    · have hi1 : ¬ (i : Int) < P.length := by omega
      have he : i = P.length := by omega
      have hfin : X = S.data.toList := by
        by_cases h0 : i = 0
        · have hp : P = [] := List.length_eq_zero_iff.1 (by omega)
          rw [(s1 h0).1, ← hX.out, hp]; rfl
        · have := s2 (by omega)
          rw [he, List.drop_length] at this
          simp only [fillT, List.append_nil] at this
          rw [this, hX.out]
      have hSe : (⟨X.toArray⟩ : ByteArray) = S := by rw [hfin]
      replace hfin := Lib.hid hfin; replace hSe := Lib.hid hSe; replace he := Lib.hid he
      clear s1 s2 hS hSl
      go_wp2_with fail
      go_ret
      exact ⟨by rw [hSe.out]; rfl, hb.out⟩
end Go.Proofs.YtphcmbdmkhmfbaaDoor
