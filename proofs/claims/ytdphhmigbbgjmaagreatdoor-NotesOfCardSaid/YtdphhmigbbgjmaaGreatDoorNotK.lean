/- notes.Of where the source is good: the walk. Conditions: as NotA says. -/
import Derived.Test.YtdphhmigbbgjmaaGreatDoorN1
import Derived.Maps.OwnIn
import Derived.Test.YtdphhmigbbgjmaaGreatDoorSnk
namespace Go.Proofs.YtdphhmigbbgjmaaGreatDoor
open Go.RowKit Go.Lib Go.Shelf
open PScan
open Go.Proofs.YtdphhmigbbgjmaaGreatDoorW.PrintWords
set_option linter.unusedVariables false
attribute [local go_sem] Oper.semAt_some
theorem at_off' (g i : Nat) : (⟨g, 0, none⟩ : Addr).add i = ⟨g, i, none⟩ := by
  unfold Addr.add; split
  · rename_i h; simp_all
  · simp
/-- What the caller knows between two comments. -/
structure NoI (w : World) (H : Nat) (v : Value) (ra : Option Addr) (L : List Tk) (t0 : Tk) (xs : List Tk) (W : World) : Prop where
  lo : Below w.heap.size w W
  lv : Blk W (H - 3) #[v] 42
  cv : Blk W (H - 1) #[v] 42
  row : ∀ i (hi : i < L.length), ∃ g, ra = some ⟨g, 0, none⟩ ∧ g < H - 3 ∧ W.cell? ⟨g, i * 6, none⟩ = some (.int .u8 L[i].k) ∧ W.cell? ⟨g, i * 6 + 1, none⟩ = some (.string L[i].s) ∧ W.cell? ⟨g, i * 6 + 2, none⟩ = some (.int .i64 L[i].a) ∧ W.cell? ⟨g, i * 6 + 3, none⟩ = some (.int .i64 L[i].l) ∧ W.cell? ⟨g, i * 6 + 4, none⟩ = some (.int .i64 L[i].c) ∧ W.cell? ⟨g, i * 6 + 5, none⟩ = some (.int .i64 L[i].f)
  out : ∃ o, Blk W (H - 2) #[o] 23 ∧ W.ownsRow (H + 2) 38 3 o (rmkGo t0 0 xs).length (rmkC (rmkGo t0 0 xs))
theorem NoI.sm {w : World} {H : Nat} {v : Value} {ra : Option Addr} {L : List Tk} {t0 : Tk} {xs : List Tk} {W W' : World} (hH : w.heap.size + 3 ≤ H) (h : NoI w H v ra L t0 xs W) (k : Sm H W W') : NoI w H v ra L t0 xs W' := by
  have hc : ∀ p : Addr, p.block < H → W.cell? p ≠ none → W'.cell? p = W.cell? p := fun p hp hn => by
    have hlt : p.block < W.heap.size := by
      rcases Nat.lt_or_ge p.block W.heap.size with h | h
      · exact h
      · exact absurd (by simp [World.cell?, Array.getElem?_eq_none h]) hn
    unfold World.cell?; rw [k.same p.block hlt (by omega) (by omega)]
  refine ⟨below_sm h.lo k (by omega) (Nat.le_refl _), h.lv.sm k (by omega), h.cv.sm k (by omega), fun i hi => ?_, ?_⟩
  · obtain ⟨g, e, hg, c0, c1, c2, c3, c4, c5⟩ := h.row i hi
    have q := fun (j : Nat) (u : Value) (hu : W.cell? ⟨g, j, none⟩ = some u) => (hc ⟨g, j, none⟩ (by show g < H; omega) (by rw [hu]; exact fun h => by cases h)).trans hu
    exact ⟨g, e, hg, q _ _ c0, q _ _ c1, q _ _ c2, q _ _ c3, q _ _ c4, q _ _ c5⟩
  · obtain ⟨o, h1, h2⟩ := h.out
    exact ⟨o, h1.sm k (by omega), own_sm h2 k (Nat.le_refl _)⟩
theorem rowK {w w' : World} {F : Nat → Prop} {base : Nat} {e : TypeId} {size : Nat} {v : Value} {n : Nat} {xs : List Value} (h : w.ownsRow base e size v n xs) (k : Kept F w w') (hn : ∀ g, v.ownBlock = some g → ¬ F g) : w'.ownsRow base e size v n xs := by
  refine ⟨h.1, ?_⟩
  rcases h.2 with h2 | ⟨g, cap, cur, h1, h2, h3, h4⟩
  · exact .inl h2
  · exact .inr ⟨g, cap, cur, h1, h2, (k.block g (Array.getElem?_eq_some_iff.1 h3).1 (hn g (by rw [h1]; rfl))).trans h3, h4⟩
theorem infoR : (Tryz.prog.info? 38).map (fun i => (i.zero, i.size, i.bytes)) = some (some (.agg #[.int .i64 0, .string ⟨#[]⟩, .bool false]), 3, 32) := by kernel_rfl
theorem new_three (w : World) (a b c : Value) (t : TypeId) (j : Nat) (u : Value) (h : [a, b, c][j]? = some u) : (w.alloc (.cells #[a, b, c] t)).cell? ((⟨w.heap.size, 0, none⟩ : Addr).add j) = some u := by
  rw [at_off', (Blk.new w #[a, b, c] t).cell j]
  simpa using h
theorem rmk_len (t0 : Tk) : ∀ (n : Nat) (xs : List Tk), (rmkGo t0 n xs).length ≤ xs.length
  | n, [] => by simp [rmkGo]
  | n, x :: r => by
    have h1 := rmk_len t0 n r
    have h2 := rmk_len t0 (n + 1) r
    rw [rmkGo]; split <;> simp <;> omega
theorem Sm.drew {H : Nat} {W W' : World} (k : Sm H W W') : Sm H W W'.drew := ⟨k.os, k.tape, k.output, k.size, k.same⟩
theorem NoI.snoc {w : World} {H : Nat} {v : Value} {ra : Option Addr} {L : List Tk} {t0 : Tk} {pre : List Tk} {t : Tk} {W W1 w' : World} {o v' : Value} (hH : w.heap.size + 3 ≤ H) (h : NoI w H v ra L t0 pre W) (hlt : H + 1 < W.heap.size) (ho : Blk W (H - 2) #[o] 23) (k1 : Sm H W W1) (kp : Kp H W W1)
    (hob : ∀ k, o.ownBlock = some k → H + 2 ≤ k) (hown : w'.ownsRow (H + 2) 38 3 v' (rmkGo t0 0 (pre ++ [t])).length (rmkC (rmkGo t0 0 (pre ++ [t])))) (hg : W1.grownBy w' o.ownBlock) :
    Kp H W (w'.setCell ⟨H - 2, 0, none⟩ v') ∧ NoI w H v ra L t0 (pre ++ [t]) (w'.setCell ⟨H - 2, 0, none⟩ v') := by
  have hs1 := k1.size
  have low : ∀ k, k < H + 2 → k ≠ H - 2 → (w'.setCell ⟨H - 2, 0, none⟩ v').heap[k]? = W1.heap[k]? := fun k hk hn =>
    (Below.heap_setCell w' ⟨H - 2, 0, none⟩ v' k hn).trans (hg.block k (by omega) (fun e => by have := hob k e.symm; omega))
  have hbl : Blk w' (H - 2) #[o] 23 := (hg.block (H - 2) (by omega) (fun e => by have := hob _ e.symm; omega)).trans (ho.sm k1 (by omega))
  have lw : ∀ k, k < H → k ≠ H - 2 → (w'.setCell ⟨H - 2, 0, none⟩ v').heap[k]? = W.heap[k]? := fun k hk hn => (low k (by omega) hn).trans (k1.same k (by omega) (by omega) (by omega))
  have hc : ∀ p : Addr, p.block < H - 2 → (w'.setCell ⟨H - 2, 0, none⟩ v').cell? p = W.cell? p := fun p hp => by
    unfold World.cell?; rw [lw p.block (by omega) (by omega)]
  refine ⟨fun k hk => by rcases hk with rfl | rfl <;> exact (low _ (by omega) (by omega)).trans (kp _ (by omega)), ?_⟩
  refine ⟨?_, (lw (H - 3) (by omega) (by omega)).trans h.lv, (lw (H - 1) (by omega) (by omega)).trans h.cv, fun i hi => ?_, v', by simpa using hbl.set 0 v', ?_⟩
  · refine h.lo.trans ⟨hg.os.trans k1.os, hg.tape.trans k1.tape, hg.output.trans k1.output, ?_, fun k hk => lw k (by omega) (by omega)⟩
    have := hg.size
    show W.heap.size ≤ (w'.setCell ⟨H - 2, 0, none⟩ v').heap.size
    simp [World.setCell]; omega
  · obtain ⟨g, e, hgl, c0, c1, c2, c3, c4, c5⟩ := h.row i hi
    exact ⟨g, e, hgl, by rw [hc _ (by show g < H - 2; omega)]; exact c0, by rw [hc _ (by show g < H - 2; omega)]; exact c1, by rw [hc _ (by show g < H - 2; omega)]; exact c2, by rw [hc _ (by show g < H - 2; omega)]; exact c3, by rw [hc _ (by show g < H - 2; omega)]; exact c4, by rw [hc _ (by show g < H - 2; omega)]; exact c5⟩
  · have k : Kept (fun i => i = H - 2) w' (w'.setCell ⟨H - 2, 0, none⟩ v') := (Kept.refl (fun i => i = H - 2) w').setCell ⟨H - 2, 0, none⟩ _ rfl
    exact rowK hown k (fun g hg' e => by have := (World.ownsRow.lt hown g hg').1; omega)
theorem own_lower {B B' : Nat} {W : World} {e : TypeId} {sz : Nat} {v : Value} {n : Nat} {xs : List Value} (h : W.ownsRow B e sz v n xs) (hB : B' ≤ B) : W.ownsRow B' e sz v n xs :=
  ⟨h.1, h.2.imp id fun ⟨g, cap, cur, he, hb, rest⟩ => ⟨g, cap, cur, he, Nat.le_trans hB hb, rest⟩⟩
theorem tok_row {w : World} {base : Nat} {ok : Nat → Prop} {ra : Option Addr} {cap : Nat} {L : List S48} (h : Kd.R k48 48 w base ok (.slice ra L.length cap) L) (i : Nat) (hi : i < (L.map tkOf).length) :
    ∃ g, ra = some ⟨g, 0, none⟩ ∧ g < w.heap.size ∧ w.cell? ⟨g, i * 6, none⟩ = some (.int .u8 (L.map tkOf)[i].k) ∧ w.cell? ⟨g, i * 6 + 1, none⟩ = some (.string (L.map tkOf)[i].s) ∧ w.cell? ⟨g, i * 6 + 2, none⟩ = some (.int .i64 (L.map tkOf)[i].a) ∧ w.cell? ⟨g, i * 6 + 3, none⟩ = some (.int .i64 (L.map tkOf)[i].l) ∧ w.cell? ⟨g, i * 6 + 4, none⟩ = some (.int .i64 (L.map tkOf)[i].c) ∧ w.cell? ⟨g, i * 6 + 5, none⟩ = some (.int .i64 (L.map tkOf)[i].f) := by
  have hl : i < L.length := by simpa using hi
  have hC := (Kd.R_reads' h).2.2
  obtain ⟨ad, e, c0, c1, c2, c3, c4, c5⟩ := at_T48 hC (i : Int) (by omega) (by omega)
  obtain ⟨_, inner, ho, _⟩ := h
  have hrd : rd_T48 L (i : Int) = L[i] := by unfold rd_T48; rw [Int.toNat_natCast, List.getD_eq_getElem?_getD, List.getElem?_eq_getElem hl]; rfl
  rw [hrd] at c0 c1 c2 c3 c4 c5
  rcases ho.2 with ⟨he, h0⟩ | ⟨g, cap', cur, he, hB, hg, _⟩
  · omega
  · injection he with e1 e2 e3
    rw [e] at e1
    obtain rfl := Option.some.inj e1
    have hm : (L.map tkOf)[i] = tkOf L[i] := List.getElem_map _
    rw [hm]
    simp only [Int.toNat_natCast, at_off'] at c0 c1 c2 c3 c4 c5
    exact ⟨g, e, (Array.getElem?_eq_some_iff.1 hg).1, c0, c1, c2, c3, c4, c5⟩
set_option maxRecDepth 100000 in
set_option maxHeartbeats 8000000 in
theorem notes_Of_ok (s : ByteArray) (hs : s.size ≤ 67108864) (h0 : (allV s).2.1 = 0) (t0 : Tk) (ht0 : ∀ h : 0 < ((allV s).1.map tkOf).length, ((allV s).1.map tkOf)[0] = t0) (w : World) (hT : Clas w) :
    Calls Tryz.prog 6 #[.string s] w fun e w' => ∃ o, e = .returned (.tuple #[o, .nilIface]) ∧ w'.ownsRow w.heap.size 38 3 o (rmkGo t0 0 ((allV s).1.map tkOf)).length (rmkC (rmkGo t0 0 ((allV s).1.map tkOf))) ∧ Below w.heap.size w w' := by
  have hA := notes_all_ok s hs h0 w hT
  have hLl := all_len s
  generalize (allV s).1 = L0 at *
  clear h0 hT
  refine (callsIn_wide (n := 3)).1 ?_
  refine callsIn_of_wp_marks Tryz.func6 rfl trivial ?_ rfl
  simp only [Tryz.ntmps6, List.size_toArray, List.length_cons, List.length_nil, Nat.reduceAdd, Nat.reduceSub, Array.replicate_succ, Array.replicate_zero, List.push_toArray, List.append_toArray, List.nil_append, List.cons_append]
  gi_wp2_with (first | (refine ⟨trivial, ?_⟩; gi_at_call 13; refine (callsIn_wide.2 hA).mono ?_; rintro e w1 ⟨v, rfl, hR, hbb⟩; obtain ⟨ra, cap, rfl, hR1, hR2⟩ := Kd.R_reads hR) | (refine ⟨trivial, ?_⟩; gi_at_call 14; refine (callsIn_wide.2 (notes_comments _ _ _ _)).mono ?_; rintro e w2 ⟨rfl, hw⟩; rw [hw]; clear hw))
  have hz1 := hbb.size
  have hb3 := ((hbb.alloc hz1 (.cells #[.slice ra L0.length cap] 42)).alloc (by simp; omega) (.cells #[.slice none 0 0] 23)).alloc (by simp; omega) (.cells #[.slice ra L0.length cap] 42)
  have hbw1 := (((Below.refl w1.heap.size w1).alloc (Nat.le_refl _) (.cells #[.slice ra L0.length cap] 42)).alloc (by simp) (.cells #[.slice none 0 0] 23)).alloc (by simp; omega) (.cells #[.slice ra L0.length cap] 42)
  have hl1 := ((Blk.new w1 #[.slice ra L0.length cap] 42).alloc (.cells #[.slice none 0 0] 23)).alloc (.cells #[.slice ra L0.length cap] 42)
  have ho1 := (Blk.new (w1.alloc (.cells #[.slice ra L0.length cap] 42)) #[.slice none 0 0] 23).alloc (.cells #[.slice ra L0.length cap] 42)
  have hc1 := Blk.new ((w1.alloc (.cells #[.slice ra L0.length cap] 42)).alloc (.cells #[.slice none 0 0] 23)) #[.slice ra L0.length cap] 42
  have hsz : (((w1.alloc (.cells #[.slice ra L0.length cap] 42)).alloc (.cells #[.slice none 0 0] 23)).alloc (.cells #[.slice ra L0.length cap] 42)).heap.size = w1.heap.size + 3 := by simp
  simp only [World.size_alloc] at ho1 hc1
  generalize (((w1.alloc (.cells #[.slice ra L0.length cap] 42)).alloc (.cells #[.slice none 0 0] 23)).alloc (.cells #[.slice ra L0.length cap] 42)) = W0 at *
  have hrow := tok_row hR
  have hlen : (L0.map tkOf).length = L0.length := by simp
  have hst : NoI w W0.heap.size (.slice ra L0.length cap) ra (L0.map tkOf) t0 [] W0 := by
    rw [hsz]
    refine ⟨hb3, hl1, hc1, fun i hi => ?_, ⟨_, ho1, World.ownsRow_nil _ _ _ _⟩⟩
    obtain ⟨g, e, hg, c0, c1, c2, c3, c4, c5⟩ := hrow i hi
    have q := fun (j : Nat) (u : Value) (hu : w1.cell? ⟨g, j, none⟩ = some u) => (hbw1.cell (p := ⟨g, j, none⟩) hg).trans hu
    exact ⟨g, e, by omega, q _ _ c0, q _ _ c1, q _ _ c2, q _ _ c3, q _ _ c4, q _ _ c5⟩
  have hH3 : w.heap.size + 3 ≤ W0.heap.size := by omega
  refine range_comments (w1.heap.size + 2) cap ra (L0.map tkOf) (by omega) rfl rfl (NoI w W0.heap.size (.slice ra L0.length cap) ra (L0.map tkOf) t0)
    (fun xs W W' h k => h.sm hH3 k)
    (fun pre W h => by rw [hlen]; have := h.cv.cell 0; rw [hsz] at this; exact this)
    (fun pre W h i hi => by obtain ⟨g, e, _, c⟩ := h.row i hi; exact ⟨g, e, c⟩)
    (fun pre t W h hn => ⟨h.lo, h.lv, h.cv, h.row, by have := h.out; rw [rmk_snoc, hn]; simpa using this⟩) hst
    (fun m t q => { tmps := #[.string s, undef, .slice none 0 0, .nilIface, .pointer (some ⟨w1.heap.size, 0, none⟩), .nilIface, .pointer (some ⟨w1.heap.size + 1, 0, none⟩), .int .i64 m, .pointer (some ⟨q, 0, none⟩), undef, .tuple #[.slice ra L0.length cap, .nilIface], .string s, .tuple #[.slice ra L0.length cap, .nilIface], .slice ra L0.length cap, .nilIface, .nilIface, .bool false, undef, .slice ra L0.length cap, .func (.func 23) #[] #[.pointer (some ⟨w1.heap.size + 1 + 1, 0, none⟩)], .int .i64 m, .agg t.cells, undef, undef, undef, undef, undef, undef, undef, undef, undef, undef, undef, undef, undef, undef, undef, undef, undef, undef, undef, undef, undef, undef], defers := [] }) ?assign ?body ?done
  case assign =>
    intro l m t W K hK
    obtain ⟨tk, ts, ta, tl, tc, tf⟩ := t
    simp only [Tk.cells] at hK ⊢
    gi_wp2
    exact hK
  case body =>
    intro l pre t q W h hpre hnt hq hB _
    have hL0 : 0 < (L0.map tkOf).length := by
      have := hpre.length_le; simp at this; omega
    obtain ⟨g, e, hg, c0, c1, c2, c3, c4, c5⟩ := h.row 0 hL0
    subst e
    rw [ht0 hL0] at c0 c1 c2 c3 c4 c5
    have l0 := h.lv.cell 0
    rw [hsz] at l0
    obtain ⟨o, ho, hown⟩ := h.out
    have o0 := ho.cell 0; have of0 := ho.frozen 0
    rw [hsz] at o0 of0
    obtain ⟨tk, ts, ta, tl, tc, tf⟩ := t
    obtain ⟨uk, us, ua, ul, uc, uf⟩ := t0
    simp only [Tk.cells] at hB ⊢
    have b0 := hB.cell 0; have b1 := hB.cell 1; have b2 := hB.cell 2; have b3 := hB.cell 3; have b4 := hB.cell 4; have b5 := hB.cell 5
    simp at l0 o0 of0 b0 b1 b2 b3 b4 b5 c0 c1 c2 c3 c4 c5
    have hn0 : 0 < L0.length := by omega
    have hlt0 : W0.heap.size + 1 < W.heap.size := by have := hB.lt; omega
    have hrm := rmk_snoc ⟨uk, us, ua, ul, uc, uf⟩ ⟨tk, ts, ta, tl, tc, tf⟩ 0 pre
    rw [hnt, if_pos rfl, Nat.zero_add] at hrm
    have hrl : (rmkGo ⟨uk, us, ua, ul, uc, uf⟩ 0 pre).length ≤ 67108864 := by
      have h1 := rmk_len ⟨uk, us, ua, ul, uc, uf⟩ 0 pre
      have h2 := hpre.length_le
      simp at h2; omega
    have hoL := World.ownsRow.lt hown
    have hfin : ∀ (Bv : Bool) (v' : Value) (w' : World), behT ⟨uk, us, ua, ul, uc, uf⟩ ⟨tk, ts, ta, tl, tc, tf⟩ = Bv → w'.ownsRow (W0.heap.size + 2) 38 3 v' ((rmkGo ⟨uk, us, ua, ul, uc, uf⟩ 0 pre).length + 1) (rmkC (rmkGo ⟨uk, us, ua, ul, uc, uf⟩ 0 pre) ++ [.int .i64 (plainN pre), .string ts, .bool Bv]) →
        (W.alloc (.cells #[.int .i64 (plainN pre), .string ts, .bool Bv] 38)).drew.grownBy w' o.ownBlock → w'.cell? ⟨w1.heap.size + 1, 0, none⟩ = some o ∧ w'.frozen? ⟨w1.heap.size + 1, 0, none⟩ = false ∧ Kp W0.heap.size W (w'.setCell ⟨w1.heap.size + 1, 0, none⟩ v') ∧ NoI w W0.heap.size (.slice (some ⟨g, 0, none⟩) L0.length cap) (some ⟨g, 0, none⟩) (L0.map tkOf) ⟨uk, us, ua, ul, uc, uf⟩ (pre ++ [⟨tk, ts, ta, tl, tc, tf⟩]) (w'.setCell ⟨w1.heap.size + 1, 0, none⟩ v') := fun Bv v' w' hbv hown' hg => by
      have k1 : Sm W0.heap.size W ((W.alloc (.cells #[.int .i64 (plainN pre), .string ts, .bool Bv] 38)).drew) := (Sm.alloc W0.heap.size W (.cells #[.int .i64 (plainN pre), .string ts, .bool Bv] 38)).drew
      have kp : Kp W0.heap.size W ((W.alloc (.cells #[.int .i64 (plainN pre), .string ts, .bool Bv] 38)).drew) := fun k hk => Below.heap_alloc W _ _ (by omega)
      have hfi := NoI.snoc (t := ⟨tk, ts, ta, tl, tc, tf⟩) (v' := v') hH3 h hlt0 ho k1 kp (fun k hk => (hoL k hk).1) (by rw [hrm, hbv, rmkC_app]; simpa [rmkC] using hown') hg
      have hbl : Blk w' (w1.heap.size + 1) #[o] 23 := by
        have := (hg.block (W0.heap.size - 2) (by show _ < (W.heap.push _).size; simp; omega) (fun e => by have := (hoL _ e.symm).1; omega)).trans (ho.sm k1 (by omega))
        rwa [show W0.heap.size - 2 = w1.heap.size + 1 by omega] at this
      rw [show W0.heap.size - 2 = w1.heap.size + 1 by omega] at hfi
      exact ⟨by simpa using hbl.cell 0, hbl.frozen 0, hfi.1, hfi.2⟩
    obtain ⟨i0, hi, hz0, hz1, hz2⟩ := info_parts infoR
    have hcs : ((ta == ua) = false) ∨ ((ta == ua) = true ∧ (tl == ul) = false) ∨ ((ta == ua) = true ∧ (tl == ul) = true ∧ (tc == uc) = false) ∨ ((ta == ua) = true ∧ (tl == ul) = true ∧ (tc == uc) = true) := by
      cases (ta == ua) <;> cases (tl == ul) <;> cases (tc == uc) <;> simp
    have hf : (tf == 0) = true ∨ (tf == 0) = false := by cases (tf == 0) <;> simp
    clear hb3 hbw1 hl1 ho1 hc1
    replace h := Lib.hid h; replace hrow := Lib.hid hrow; replace hR := Lib.hid hR; replace hst := Lib.hid hst; replace hB := Lib.hid hB; replace ho := Lib.hid ho; replace hown := Lib.hid hown; replace hpre := Lib.hid hpre; replace hA := Lib.hid hA; replace hfin := Lib.hid hfin; replace hrm := Lib.hid hrm; replace hoL := Lib.hid hoL; replace hsz := Lib.hid hsz
    rcases hcs with x1 | ⟨x1, x2⟩ | ⟨x1, x2, x3⟩ | ⟨x1, x2, x3⟩
    · gi_wp2
      gi_region
      all_goals
        rcases hf with y1 | y1
        · have hbv : behT ⟨uk, us, ua, ul, uc, uf⟩ ⟨tk, ts, ta, tl, tc, tf⟩ = true := by simp [behT, x1, y1]
          have hwn : (W.alloc (.cells #[.int .i64 (plainN pre), .string ts, .bool true] 38)).drew.ownsRow (W0.heap.size + 2) 38 3 o (rmkGo ⟨uk, us, ua, ul, uc, uf⟩ 0 pre).length (rmkC (rmkGo ⟨uk, us, ua, ul, uc, uf⟩ 0 pre)) := World.ownsRow.alloc (w := W) hown.out _
          have hcl : ∀ (j : Nat) (u : Value), [.int .i64 (plainN pre), .string ts, .bool true][j]? = some u → (W.alloc (.cells #[.int .i64 (plainN pre), .string ts, .bool true] 38)).drew.cell? ((⟨W.heap.size, 0, none⟩ : Addr).add j) = some u := fun j u hj => new_three W _ _ _ _ j u hj
          have hone : ∀ u ∈ ([.int .i64 (plainN pre), .string ts, .bool true] : List Value), u.oneCell' = true := by simp [Value.oneCell']
          have hbs : W0.heap.size + 2 ≤ (W.alloc (.cells #[.int .i64 (plainN pre), .string ts, .bool true] 38)).drew.heap.size := by show _ ≤ (W.heap.push _).size; simp; omega
          have hmx : (rmkGo ⟨uk, us, ua, ul, uc, uf⟩ 0 pre).length + 1 ≤ maxLen := by unfold maxLen; omega
          replace hwn := Lib.hid hwn; replace hcl := Lib.hid hcl; replace hone := Lib.hid hone; replace hbs := Lib.hid hbs; replace hmx := Lib.hid hmx
          gi_wp2_with (gi_at_builtin; refine wpListIn_append_own_at _ rfl _ _ 23 rfl (W0.heap.size + 2) 38 i0 (.agg #[.int .i64 0, .string ⟨#[]⟩, .bool false]) 3 32 Tryz.underlying23 hi hz0 hz1 hz2 rfl (by decide) o _ _ rfl hwn.out ⟨W.heap.size, 0, none⟩ 1 1 [.int .i64 (plainN pre), .string ts, .bool true] rfl rfl hcl.out hone.out hmx.out (by omega) hbs.out ?_; intro v' w' hown' hgr _ _; obtain ⟨va', vc', rfl⟩ := ownsRow_shape hown'; obtain ⟨s1, s2, hkp, hno⟩ := hfin.out true _ w' hbv hown' hgr; replace hkp := Lib.hid hkp; replace hno := Lib.hid hno; clear hown' hgr)
          exact ⟨hkp.out, hno.out⟩
        · have hbv : behT ⟨uk, us, ua, ul, uc, uf⟩ ⟨tk, ts, ta, tl, tc, tf⟩ = false := by simp [behT, y1]
          have hwn : (W.alloc (.cells #[.int .i64 (plainN pre), .string ts, .bool false] 38)).drew.ownsRow (W0.heap.size + 2) 38 3 o (rmkGo ⟨uk, us, ua, ul, uc, uf⟩ 0 pre).length (rmkC (rmkGo ⟨uk, us, ua, ul, uc, uf⟩ 0 pre)) := World.ownsRow.alloc (w := W) hown.out _
          have hcl : ∀ (j : Nat) (u : Value), [.int .i64 (plainN pre), .string ts, .bool false][j]? = some u → (W.alloc (.cells #[.int .i64 (plainN pre), .string ts, .bool false] 38)).drew.cell? ((⟨W.heap.size, 0, none⟩ : Addr).add j) = some u := fun j u hj => new_three W _ _ _ _ j u hj
          have hone : ∀ u ∈ ([.int .i64 (plainN pre), .string ts, .bool false] : List Value), u.oneCell' = true := by simp [Value.oneCell']
          have hbs : W0.heap.size + 2 ≤ (W.alloc (.cells #[.int .i64 (plainN pre), .string ts, .bool false] 38)).drew.heap.size := by show _ ≤ (W.heap.push _).size; simp; omega
          have hmx : (rmkGo ⟨uk, us, ua, ul, uc, uf⟩ 0 pre).length + 1 ≤ maxLen := by unfold maxLen; omega
          replace hwn := Lib.hid hwn; replace hcl := Lib.hid hcl; replace hone := Lib.hid hone; replace hbs := Lib.hid hbs; replace hmx := Lib.hid hmx
          gi_wp2_with (gi_at_builtin; refine wpListIn_append_own_at _ rfl _ _ 23 rfl (W0.heap.size + 2) 38 i0 (.agg #[.int .i64 0, .string ⟨#[]⟩, .bool false]) 3 32 Tryz.underlying23 hi hz0 hz1 hz2 rfl (by decide) o _ _ rfl hwn.out ⟨W.heap.size, 0, none⟩ 1 1 [.int .i64 (plainN pre), .string ts, .bool false] rfl rfl hcl.out hone.out hmx.out (by omega) hbs.out ?_; intro v' w' hown' hgr _ _; obtain ⟨va', vc', rfl⟩ := ownsRow_shape hown'; obtain ⟨s1, s2, hkp, hno⟩ := hfin.out false _ w' hbv hown' hgr; replace hkp := Lib.hid hkp; replace hno := Lib.hid hno; clear hown' hgr)
          exact ⟨hkp.out, hno.out⟩
    · gi_wp2
      gi_region
      all_goals
        rcases hf with y1 | y1
        · have hbv : behT ⟨uk, us, ua, ul, uc, uf⟩ ⟨tk, ts, ta, tl, tc, tf⟩ = true := by simp [behT, x1, x2, y1]
          have hwn : (W.alloc (.cells #[.int .i64 (plainN pre), .string ts, .bool true] 38)).drew.ownsRow (W0.heap.size + 2) 38 3 o (rmkGo ⟨uk, us, ua, ul, uc, uf⟩ 0 pre).length (rmkC (rmkGo ⟨uk, us, ua, ul, uc, uf⟩ 0 pre)) := World.ownsRow.alloc (w := W) hown.out _
          have hcl : ∀ (j : Nat) (u : Value), [.int .i64 (plainN pre), .string ts, .bool true][j]? = some u → (W.alloc (.cells #[.int .i64 (plainN pre), .string ts, .bool true] 38)).drew.cell? ((⟨W.heap.size, 0, none⟩ : Addr).add j) = some u := fun j u hj => new_three W _ _ _ _ j u hj
          have hone : ∀ u ∈ ([.int .i64 (plainN pre), .string ts, .bool true] : List Value), u.oneCell' = true := by simp [Value.oneCell']
          have hbs : W0.heap.size + 2 ≤ (W.alloc (.cells #[.int .i64 (plainN pre), .string ts, .bool true] 38)).drew.heap.size := by show _ ≤ (W.heap.push _).size; simp; omega
          have hmx : (rmkGo ⟨uk, us, ua, ul, uc, uf⟩ 0 pre).length + 1 ≤ maxLen := by unfold maxLen; omega
          replace hwn := Lib.hid hwn; replace hcl := Lib.hid hcl; replace hone := Lib.hid hone; replace hbs := Lib.hid hbs; replace hmx := Lib.hid hmx
          gi_wp2_with (gi_at_builtin; refine wpListIn_append_own_at _ rfl _ _ 23 rfl (W0.heap.size + 2) 38 i0 (.agg #[.int .i64 0, .string ⟨#[]⟩, .bool false]) 3 32 Tryz.underlying23 hi hz0 hz1 hz2 rfl (by decide) o _ _ rfl hwn.out ⟨W.heap.size, 0, none⟩ 1 1 [.int .i64 (plainN pre), .string ts, .bool true] rfl rfl hcl.out hone.out hmx.out (by omega) hbs.out ?_; intro v' w' hown' hgr _ _; obtain ⟨va', vc', rfl⟩ := ownsRow_shape hown'; obtain ⟨s1, s2, hkp, hno⟩ := hfin.out true _ w' hbv hown' hgr; replace hkp := Lib.hid hkp; replace hno := Lib.hid hno; clear hown' hgr)
          exact ⟨hkp.out, hno.out⟩
        · have hbv : behT ⟨uk, us, ua, ul, uc, uf⟩ ⟨tk, ts, ta, tl, tc, tf⟩ = false := by simp [behT, y1]
          have hwn : (W.alloc (.cells #[.int .i64 (plainN pre), .string ts, .bool false] 38)).drew.ownsRow (W0.heap.size + 2) 38 3 o (rmkGo ⟨uk, us, ua, ul, uc, uf⟩ 0 pre).length (rmkC (rmkGo ⟨uk, us, ua, ul, uc, uf⟩ 0 pre)) := World.ownsRow.alloc (w := W) hown.out _
          have hcl : ∀ (j : Nat) (u : Value), [.int .i64 (plainN pre), .string ts, .bool false][j]? = some u → (W.alloc (.cells #[.int .i64 (plainN pre), .string ts, .bool false] 38)).drew.cell? ((⟨W.heap.size, 0, none⟩ : Addr).add j) = some u := fun j u hj => new_three W _ _ _ _ j u hj
          have hone : ∀ u ∈ ([.int .i64 (plainN pre), .string ts, .bool false] : List Value), u.oneCell' = true := by simp [Value.oneCell']
          have hbs : W0.heap.size + 2 ≤ (W.alloc (.cells #[.int .i64 (plainN pre), .string ts, .bool false] 38)).drew.heap.size := by show _ ≤ (W.heap.push _).size; simp; omega
          have hmx : (rmkGo ⟨uk, us, ua, ul, uc, uf⟩ 0 pre).length + 1 ≤ maxLen := by unfold maxLen; omega
          replace hwn := Lib.hid hwn; replace hcl := Lib.hid hcl; replace hone := Lib.hid hone; replace hbs := Lib.hid hbs; replace hmx := Lib.hid hmx
          gi_wp2_with (gi_at_builtin; refine wpListIn_append_own_at _ rfl _ _ 23 rfl (W0.heap.size + 2) 38 i0 (.agg #[.int .i64 0, .string ⟨#[]⟩, .bool false]) 3 32 Tryz.underlying23 hi hz0 hz1 hz2 rfl (by decide) o _ _ rfl hwn.out ⟨W.heap.size, 0, none⟩ 1 1 [.int .i64 (plainN pre), .string ts, .bool false] rfl rfl hcl.out hone.out hmx.out (by omega) hbs.out ?_; intro v' w' hown' hgr _ _; obtain ⟨va', vc', rfl⟩ := ownsRow_shape hown'; obtain ⟨s1, s2, hkp, hno⟩ := hfin.out false _ w' hbv hown' hgr; replace hkp := Lib.hid hkp; replace hno := Lib.hid hno; clear hown' hgr)
          exact ⟨hkp.out, hno.out⟩
    · gi_wp2
      gi_region
      all_goals
        rcases hf with y1 | y1
        · have hbv : behT ⟨uk, us, ua, ul, uc, uf⟩ ⟨tk, ts, ta, tl, tc, tf⟩ = true := by simp [behT, x1, x2, x3, y1]
          have hwn : (W.alloc (.cells #[.int .i64 (plainN pre), .string ts, .bool true] 38)).drew.ownsRow (W0.heap.size + 2) 38 3 o (rmkGo ⟨uk, us, ua, ul, uc, uf⟩ 0 pre).length (rmkC (rmkGo ⟨uk, us, ua, ul, uc, uf⟩ 0 pre)) := World.ownsRow.alloc (w := W) hown.out _
          have hcl : ∀ (j : Nat) (u : Value), [.int .i64 (plainN pre), .string ts, .bool true][j]? = some u → (W.alloc (.cells #[.int .i64 (plainN pre), .string ts, .bool true] 38)).drew.cell? ((⟨W.heap.size, 0, none⟩ : Addr).add j) = some u := fun j u hj => new_three W _ _ _ _ j u hj
          have hone : ∀ u ∈ ([.int .i64 (plainN pre), .string ts, .bool true] : List Value), u.oneCell' = true := by simp [Value.oneCell']
          have hbs : W0.heap.size + 2 ≤ (W.alloc (.cells #[.int .i64 (plainN pre), .string ts, .bool true] 38)).drew.heap.size := by show _ ≤ (W.heap.push _).size; simp; omega
          have hmx : (rmkGo ⟨uk, us, ua, ul, uc, uf⟩ 0 pre).length + 1 ≤ maxLen := by unfold maxLen; omega
          replace hwn := Lib.hid hwn; replace hcl := Lib.hid hcl; replace hone := Lib.hid hone; replace hbs := Lib.hid hbs; replace hmx := Lib.hid hmx
          gi_wp2_with (gi_at_builtin; refine wpListIn_append_own_at _ rfl _ _ 23 rfl (W0.heap.size + 2) 38 i0 (.agg #[.int .i64 0, .string ⟨#[]⟩, .bool false]) 3 32 Tryz.underlying23 hi hz0 hz1 hz2 rfl (by decide) o _ _ rfl hwn.out ⟨W.heap.size, 0, none⟩ 1 1 [.int .i64 (plainN pre), .string ts, .bool true] rfl rfl hcl.out hone.out hmx.out (by omega) hbs.out ?_; intro v' w' hown' hgr _ _; obtain ⟨va', vc', rfl⟩ := ownsRow_shape hown'; obtain ⟨s1, s2, hkp, hno⟩ := hfin.out true _ w' hbv hown' hgr; replace hkp := Lib.hid hkp; replace hno := Lib.hid hno; clear hown' hgr)
          exact ⟨hkp.out, hno.out⟩
        · have hbv : behT ⟨uk, us, ua, ul, uc, uf⟩ ⟨tk, ts, ta, tl, tc, tf⟩ = false := by simp [behT, y1]
          have hwn : (W.alloc (.cells #[.int .i64 (plainN pre), .string ts, .bool false] 38)).drew.ownsRow (W0.heap.size + 2) 38 3 o (rmkGo ⟨uk, us, ua, ul, uc, uf⟩ 0 pre).length (rmkC (rmkGo ⟨uk, us, ua, ul, uc, uf⟩ 0 pre)) := World.ownsRow.alloc (w := W) hown.out _
          have hcl : ∀ (j : Nat) (u : Value), [.int .i64 (plainN pre), .string ts, .bool false][j]? = some u → (W.alloc (.cells #[.int .i64 (plainN pre), .string ts, .bool false] 38)).drew.cell? ((⟨W.heap.size, 0, none⟩ : Addr).add j) = some u := fun j u hj => new_three W _ _ _ _ j u hj
          have hone : ∀ u ∈ ([.int .i64 (plainN pre), .string ts, .bool false] : List Value), u.oneCell' = true := by simp [Value.oneCell']
          have hbs : W0.heap.size + 2 ≤ (W.alloc (.cells #[.int .i64 (plainN pre), .string ts, .bool false] 38)).drew.heap.size := by show _ ≤ (W.heap.push _).size; simp; omega
          have hmx : (rmkGo ⟨uk, us, ua, ul, uc, uf⟩ 0 pre).length + 1 ≤ maxLen := by unfold maxLen; omega
          replace hwn := Lib.hid hwn; replace hcl := Lib.hid hcl; replace hone := Lib.hid hone; replace hbs := Lib.hid hbs; replace hmx := Lib.hid hmx
          gi_wp2_with (gi_at_builtin; refine wpListIn_append_own_at _ rfl _ _ 23 rfl (W0.heap.size + 2) 38 i0 (.agg #[.int .i64 0, .string ⟨#[]⟩, .bool false]) 3 32 Tryz.underlying23 hi hz0 hz1 hz2 rfl (by decide) o _ _ rfl hwn.out ⟨W.heap.size, 0, none⟩ 1 1 [.int .i64 (plainN pre), .string ts, .bool false] rfl rfl hcl.out hone.out hmx.out (by omega) hbs.out ?_; intro v' w' hown' hgr _ _; obtain ⟨va', vc', rfl⟩ := ownsRow_shape hown'; obtain ⟨s1, s2, hkp, hno⟩ := hfin.out false _ w' hbv hown' hgr; replace hkp := Lib.hid hkp; replace hno := Lib.hid hno; clear hown' hgr)
          exact ⟨hkp.out, hno.out⟩
    · gi_wp2
      gi_region
      all_goals
        rcases hf with y1 | y1
        · have hbv : behT ⟨uk, us, ua, ul, uc, uf⟩ ⟨tk, ts, ta, tl, tc, tf⟩ = false := by simp [behT, x1, x2, x3, y1]
          have hwn : (W.alloc (.cells #[.int .i64 (plainN pre), .string ts, .bool false] 38)).drew.ownsRow (W0.heap.size + 2) 38 3 o (rmkGo ⟨uk, us, ua, ul, uc, uf⟩ 0 pre).length (rmkC (rmkGo ⟨uk, us, ua, ul, uc, uf⟩ 0 pre)) := World.ownsRow.alloc (w := W) hown.out _
          have hcl : ∀ (j : Nat) (u : Value), [.int .i64 (plainN pre), .string ts, .bool false][j]? = some u → (W.alloc (.cells #[.int .i64 (plainN pre), .string ts, .bool false] 38)).drew.cell? ((⟨W.heap.size, 0, none⟩ : Addr).add j) = some u := fun j u hj => new_three W _ _ _ _ j u hj
          have hone : ∀ u ∈ ([.int .i64 (plainN pre), .string ts, .bool false] : List Value), u.oneCell' = true := by simp [Value.oneCell']
          have hbs : W0.heap.size + 2 ≤ (W.alloc (.cells #[.int .i64 (plainN pre), .string ts, .bool false] 38)).drew.heap.size := by show _ ≤ (W.heap.push _).size; simp; omega
          have hmx : (rmkGo ⟨uk, us, ua, ul, uc, uf⟩ 0 pre).length + 1 ≤ maxLen := by unfold maxLen; omega
          replace hwn := Lib.hid hwn; replace hcl := Lib.hid hcl; replace hone := Lib.hid hone; replace hbs := Lib.hid hbs; replace hmx := Lib.hid hmx
          gi_wp2_with (gi_at_builtin; refine wpListIn_append_own_at _ rfl _ _ 23 rfl (W0.heap.size + 2) 38 i0 (.agg #[.int .i64 0, .string ⟨#[]⟩, .bool false]) 3 32 Tryz.underlying23 hi hz0 hz1 hz2 rfl (by decide) o _ _ rfl hwn.out ⟨W.heap.size, 0, none⟩ 1 1 [.int .i64 (plainN pre), .string ts, .bool false] rfl rfl hcl.out hone.out hmx.out (by omega) hbs.out ?_; intro v' w' hown' hgr _ _; obtain ⟨va', vc', rfl⟩ := ownsRow_shape hown'; obtain ⟨s1, s2, hkp, hno⟩ := hfin.out false _ w' hbv hown' hgr; replace hkp := Lib.hid hkp; replace hno := Lib.hid hno; clear hown' hgr)
          exact ⟨hkp.out, hno.out⟩
        · have hbv : behT ⟨uk, us, ua, ul, uc, uf⟩ ⟨tk, ts, ta, tl, tc, tf⟩ = false := by simp [behT, y1]
          have hwn : (W.alloc (.cells #[.int .i64 (plainN pre), .string ts, .bool false] 38)).drew.ownsRow (W0.heap.size + 2) 38 3 o (rmkGo ⟨uk, us, ua, ul, uc, uf⟩ 0 pre).length (rmkC (rmkGo ⟨uk, us, ua, ul, uc, uf⟩ 0 pre)) := World.ownsRow.alloc (w := W) hown.out _
          have hcl : ∀ (j : Nat) (u : Value), [.int .i64 (plainN pre), .string ts, .bool false][j]? = some u → (W.alloc (.cells #[.int .i64 (plainN pre), .string ts, .bool false] 38)).drew.cell? ((⟨W.heap.size, 0, none⟩ : Addr).add j) = some u := fun j u hj => new_three W _ _ _ _ j u hj
          have hone : ∀ u ∈ ([.int .i64 (plainN pre), .string ts, .bool false] : List Value), u.oneCell' = true := by simp [Value.oneCell']
          have hbs : W0.heap.size + 2 ≤ (W.alloc (.cells #[.int .i64 (plainN pre), .string ts, .bool false] 38)).drew.heap.size := by show _ ≤ (W.heap.push _).size; simp; omega
          have hmx : (rmkGo ⟨uk, us, ua, ul, uc, uf⟩ 0 pre).length + 1 ≤ maxLen := by unfold maxLen; omega
          replace hwn := Lib.hid hwn; replace hcl := Lib.hid hcl; replace hone := Lib.hid hone; replace hbs := Lib.hid hbs; replace hmx := Lib.hid hmx
          gi_wp2_with (gi_at_builtin; refine wpListIn_append_own_at _ rfl _ _ 23 rfl (W0.heap.size + 2) 38 i0 (.agg #[.int .i64 0, .string ⟨#[]⟩, .bool false]) 3 32 Tryz.underlying23 hi hz0 hz1 hz2 rfl (by decide) o _ _ rfl hwn.out ⟨W.heap.size, 0, none⟩ 1 1 [.int .i64 (plainN pre), .string ts, .bool false] rfl rfl hcl.out hone.out hmx.out (by omega) hbs.out ?_; intro v' w' hown' hgr _ _; obtain ⟨va', vc', rfl⟩ := ownsRow_shape hown'; obtain ⟨s1, s2, hkp, hno⟩ := hfin.out false _ w' hbv hown' hgr; replace hkp := Lib.hid hkp; replace hno := Lib.hid hno; clear hown' hgr)
          exact ⟨hkp.out, hno.out⟩
  case done =>
    intro W h hK
    obtain ⟨o, ho, hown⟩ := h.out
    have k0 := ho.cell 0
    rw [hsz] at k0
    simp at k0
    have hb9 := h.lo
    clear h ho hst
    gi_wp2
    refine ⟨by simp, .inl ⟨_, _, rfl, run_takeDeferred hK, ?_⟩⟩
    have hs9 := Sm.putObj W0.heap.size W W0.heap.size (.deferred none) (.inl rfl)
    refine ⟨.tuple #[o, .nilIface], by simp [results, Tryz.results6, go_sem], o, rfl, ?_, below_sm hb9 hs9 (by omega) (Nat.le_refl _)⟩
    exact own_lower (own_sm hown hs9 (Nat.le_refl _)) (by omega)
end Go.Proofs.YtdphhmigbbgjmaaGreatDoor
