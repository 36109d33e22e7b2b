/- WholeIdle: the walk. -/
import Derived.Test.YtphcmbdmkhmfbaaDoorIdle
import Derived.Test.YtphcmbdmkhmfbaaDoorArgs8
namespace Go.Proofs.YtphcmbdmkhmfbaaDoor
open Go.RowKit Go.Lib
set_option linter.unusedVariables false
set_option linter.unusedSimpArgs false
abbrev TD : TypeId := 47
theorem infoD : (Tryd.prog.info? TD).map (fun i => (i.zero, i.size, i.bytes)) = some (some (.agg #[.int .u8 0, .string ⟨#[]⟩, .int .i64 0, .int .i64 0, .bool false]), 5, 48) := by kernel_rfl
theorem bulkD_len : ∀ (L : List DocV), L.length * 6 ≤ bulkD L
  | [] => by simp [bulkD]
  | d :: r => by have := bulkD_len r; simp only [bulkD, List.length_cons]; omega
theorem cost_bulk : ∀ (L : List DocV), cost L ≤ 1001 * bulkD L
  | [] => by simp [cost]
  | d :: r => by have := cost_bulk r; simp only [bulkD, cost]; omega
theorem cells_len (d : DocV) : d.cells.length = 5 := rfl
theorem flat_len : ∀ (L : List DocV), (L.flatMap DocV.cells).length = L.length * 5
  | [] => rfl
  | d :: r => by rw [List.flatMap_cons, List.length_append, flat_len r, cells_len]; simp only [List.length_cons]; omega
theorem docs_one_cells (L : List DocV) : ∀ u ∈ L.flatMap DocV.cells, u.oneCell' = true := fun u hu => by
  obtain ⟨d, _, hd⟩ := List.mem_flatMap.1 hu
  simp [DocV.cells] at hd
  rcases hd with rfl | rfl | rfl | rfl | rfl <;> rfl
/-- A row of the call's own that holds a layout. -/
def RowD (w : World) (B : Nat) (v : Value) (L : List DocV) : Prop := w.ownsRow B TD 5 v L.length (L.flatMap DocV.cells)
theorem RowD.nil (w : World) (B : Nat) : RowD w B (.slice none 0 0) [] := World.ownsRow_nil _ _ _ _
theorem RowD.docs {w : World} {B : Nat} {v : Value} {L : List DocV} (h : RowD w B v L) : ∃ ao cap, v = .slice ao L.length cap ∧ Docs w ao L := by
  rcases h.2 with ⟨e, h2⟩ | ⟨g, cap, cur, h1, h2, h3, h4⟩
  · have : L = [] := List.length_eq_zero_iff.1 h2
    subst this
    exact ⟨none, 0, by simpa using e, fun i d hd => by simp at hd⟩
  · refine ⟨some ⟨g, 0, none⟩, cap, h1, fun i d hd => ?_⟩
    have k : ∀ j v, d.cells[j]? = some v → w.cell? ⟨g, 0 + i * 5 + j, none⟩ = some v := fun j v hv => by
      have := World.ownsRow.cells h (g := g) (by rw [h1]; rfl) (i * 5 + j) v (flat_at L i d j v hd hv)
      rw [add_zero_off] at this
      rw [Nat.zero_add]; exact this
    exact ⟨g, 0, rfl, k 0 _ rfl, k 1 _ rfl, k 2 _ rfl, k 3 _ rfl, k 4 _ rfl⟩
theorem RowD.below {w w' : World} {B : Nat} {v : Value} {L : List DocV} (h : RowD w B v L) (k : Below w.heap.size w w') : RowD w' B v L := row_below h k
theorem RowD.alloc {w : World} {B : Nat} {v : Value} {L : List DocV} (h : RowD w B v L) (o : Obj) : RowD (w.alloc o) B v L := World.ownsRow.alloc h o
theorem RowD.more {w : World} {B : Nat} {v : Value} {L M : List DocV} (h : w.ownsRow B TD 5 v (L.length + M.length) (L.flatMap DocV.cells ++ M.flatMap DocV.cells)) : RowD w B v (L ++ M) := by
  unfold RowD; rw [List.length_append, List.flatMap_append]; exact h
theorem new_docs (w : World) (L : List DocV) (cs : Array Value) (hc : cs = (L.flatMap DocV.cells).toArray) (j : Nat) (u : Value) (h : (L.flatMap DocV.cells)[j]? = some u) : (w.alloc (.cells cs TD)).cell? ((⟨w.heap.size, 0, none⟩ : Addr).add j) = some u := by
  subst hc
  rw [add_zero_off, (Blk.new w _ TD).cell j]; simpa using h
theorem idle_len (M : List DocV) : ∀ (L : List DocV) (i : Nat), (idle M i L).length ≤ 5 * L.length
  | [], i => by simp [idle]
  | d :: r, i => by
    have := idle_len M r (i + 1)
    simp only [idle, List.length_append, List.length_cons]
    unfold idleStep
    split <;> simp only [List.length_cons, List.length_nil] <;> omega
theorem l8_pick (c n : Int) (w : World) (hn : 0 < n ∧ n ≤ 9223372036854775807) (hc : -9223372036854775808 ≤ c ∧ c ≤ 9223372036854775807) : Calls Tryd.prog 32 #[.int .i64 c, .int .i64 n] w fun e w' => e = .returned (.int .i64 (pickV c n)) ∧ w' = w := by
  have hn0 : ¬ n = 0 := by omega
  obtain ⟨R, hR⟩ : ∃ R, pickV c n = R := ⟨_, rfl⟩
  rw [hR]
  have hRe : R = (if c < 0 then -(c + 1) else c) % n := hR.symm
  by_cases h : c < 0
  · rw [if_pos h] at hRe
    have w1 : IntKind.i64.wrap (c + 1) = c + 1 := IntWalk.i64_in _ (by omega)
    have w2 : IntKind.i64.wrap (-(c + 1)) = -(c + 1) := IntWalk.i64_in _ (by omega)
    have hp : 0 ≤ -(c + 1) := by omega
    have w3 : (-(c + 1)).tmod n = (-(c + 1)) % n := Int.tmod_eq_emod_of_nonneg hp
    replace hR := Lib.hid hR; replace hRe := Lib.hid hRe
    go_enter Tryd.func32, Tryd.ntmps32
    go_wp2_with fail
    go_ret
    rw [hRe.out]
    exact ⟨rfl, rfl⟩
  · rw [if_neg h] at hRe
    have hp : 0 ≤ c := by omega
    have w3 : c.tmod n = c % n := Int.tmod_eq_emod_of_nonneg hp
    replace hR := Lib.hid hR; replace hRe := Lib.hid hRe
    go_enter Tryd.func32, Tryd.ntmps32
    go_wp2_with fail
    go_ret
    rw [hRe.out]
    exact ⟨rfl, rfl⟩
theorem prRes_shape (W : Int) (L : List DocV) : ∃ s e, prRes W L = .tuple #[.string s, .int .i64 e] := by
  unfold prRes; split
  · exact ⟨_, _, rfl⟩
  · split <;> exact ⟨_, _, rfl⟩
theorem kinds3 (k : Nat) : k = 1 ∨ k = 2 ∨ (¬ k = 1 ∧ ¬ k = 2) := by omega
theorem cost_idle (M : List DocV) : ∀ (L : List DocV) (i : Nat), cost (idle M i L) ≤ 5 * cost L
  | [], i => by simp [idle, cost]
  | d :: r, i => by
    have := cost_idle M r (i + 1)
    have hb : (idleB M i).t.size = 0 := by unfold idleB; split <;> rfl
    have h0 : (kD 6).t.size = 0 := rfl
    have h1 : (kD 7).t.size = 0 := rfl
    by_cases k : d.k = 1 ∨ d.k = 2
    · have hs : idle M i (d :: r) = idleB M i :: d :: kD 6 :: kD 7 :: kD 7 :: idle M (i + 1) r := by simp [idle, idleStep, k]
      rw [hs]
      simp only [cost, hb, h0, h1]; omega
    · have hs : idle M i (d :: r) = d :: idle M (i + 1) r := by simp [idle, idleStep, k]
      rw [hs]
      simp only [cost]; omega
set_option maxHeartbeats 4000000 in
set_option maxRecDepth 100000 in
theorem law_idle (W : Int) (aL : Option Addr) (cL : Nat) (L : List DocV) (aM : Option Addr) (cM : Nat) (M : List DocV) (w : World) (hL : Docs w aL L) (hM : Docs w aM M) (bL : bulkD L ≤ 1048576) (bM : bulkD M ≤ 1048576) (hwf : ∀ d ∈ M, -9223372036854775808 ≤ d.n ∧ d.n ≤ 9223372036854775807) (hT : Tabs w) (hg1 : 0 < w.heap.size) (hg2 : 1 < w.heap.size) :
    Calls Tryd.prog 11 #[.int .i64 W, .slice aL L.length cL, .slice aM M.length cM] w fun e w' => e = .returned (.bool true) ∧ Below w.heap.size w w' := by
  have hlL := bulkD_len L
  have hlM := bulkD_len M
  have hcL := cost_bulk L
  have hp1 := whole_Print W aL cL L w hL (by omega) (by omega) hT hg1 hg2
  obtain ⟨rs, re, hres⟩ := prRes_shape W L
  rw [hres] at hp1
  replace hp1 := Lib.hid hp1; replace hL := Lib.hid hL; replace hM := Lib.hid hM; replace hT := Lib.hid hT; replace hwf := Lib.hid hwf; replace hres := Lib.hid hres; replace hcL := Lib.hid hcL
  go_enter Tryd.func11, Tryd.ntmps11
  go_wp2_with fail
  refine hp1.out.mono ?_
  rintro e w1 ⟨rfl, b1⟩
  have hz1 := b1.size
  replace b1 := Lib.hid b1
  go_wp2_with fail
  go_loopw [9, 10] (fun mv iv W4 => ∃ (i : Nat) (vm : Value), iv = .int .i64 i ∧ mv = vm ∧ i ≤ L.length ∧ Hid (RowD W4 w1.heap.size vm (idle M 0 (L.take i))) ∧ Hid (Below w1.heap.size w1 W4)) (fun _ iv _ => L.length - (RowKit.intOf iv).toNat)
  case atStart => exact ⟨0, _, rfl, rfl, by omega, Lib.hid (by simpa [idle] using RowD.nil _ _), Lib.hid (Below.refl _ _)⟩
  case round =>
    obtain ⟨i, vm, rfl, rfl, hi, hS, hb⟩ := hrel
    have hbz := hb.out.size
    have hb0 := b1.out.trans (hb.out.mono hz1)
    by_cases hlt : i < L.length
    · obtain ⟨d, hd⟩ : ∃ d, L[i]? = some d := ⟨_, List.getElem?_eq_getElem hlt⟩
      obtain ⟨bl, of, rfl, c0, c1, c2, c3, c4⟩ := (hL.out.below hb0) i d hd
      have hi1 : (i : Int) < L.length := by omega
      have hi2 : (0 : Int) ≤ i := by omega
      have wi : IntKind.i64.wrap ((i : Int) + 1) = i + 1 := IntWalk.i64_in _ (by omega)
      have hmeas : L.length - (RowKit.intOf (.int .i64 ((i : Int) + 1))).toNat < L.length - (RowKit.intOf (.int .i64 (i : Int))).toNat := by simp [RowKit.intOf]; omega
      have hbl : bl < w.heap.size := by
        obtain ⟨b', o', e', h0, _⟩ := hL.out i d hd
        cases e'; exact cell_lt h0
      have hlen := idle_len M (L.take i) 0
      have htl : (L.take i).length = i := by rw [List.length_take]; omega
      rw [htl] at hlen
      have hsn : idle M 0 (L.take (i + 1)) = idle M 0 (L.take i) ++ idleStep M i d := by
        rw [List.take_succ_eq_append_getElem hlt, idle_snoc, htl, Nat.zero_add]
        rw [List.getElem?_eq_getElem hlt] at hd
        rw [Option.some.inj hd]
      replace hsn := Lib.hid hsn; replace hb0 := Lib.hid hb0; replace hd := Lib.hid hd; replace htl := Lib.hid htl
      have hblr := cell_lt c0
      have n0 : wr.heap.size ≠ bl := by omega
      have n1 : wr.heap.size + 1 ≠ bl := by omega
      rcases Nat.eq_zero_or_pos M.length with hm | hm
      · have hm1 : ¬ (0 : Int) < M.length := by omega
        replace hm := Lib.hid hm
        rcases kinds3 d.k with hk | hk | hk
        · have hk1 : ((d.k : Int) == 1) = true := by simp; omega
          have hkk := Lib.hid (show d.k = 1 by omega)
          have hbe : idleB M i = bgD 0 false := by unfold idleB; rw [List.length_eq_zero_iff.1 hm.out]; rfl
          replace hbe := Lib.hid hbe; clear hk
          go_wp2_with fail
          obtain ⟨W5, hW5⟩ : ∃ W5, wr.alloc (.cells #[.int .u8 6, .string ⟨#[]⟩, .int .i64 0, .int .i64 0, .bool false] TD) = W5 := ⟨_, rfl⟩
          rw [hW5]
          have hD : Blk W5 wr.heap.size #[.int .u8 6, .string ⟨#[]⟩, .int .i64 0, .int .i64 0, .bool false] TD := by rw [← hW5]; exact Blk.new _ _ _
          have hb5 : Below wr.heap.size wr W5 := by rw [← hW5]; exact (Below.refl _ _).alloc (Nat.le_refl _) _
          have hS5 := hS.out.below hb5
          have hb5l := Lib.hid (hb.out.trans (hb5.mono hbz))
          have c0 := keepC hb5 c0; have c1 := keepC hb5 c1; have c2 := keepC hb5 c2; have c3 := keepC hb5 c3; have c4 := keepC hb5 c4
          have hz5 : w1.heap.size ≤ W5.heap.size := Nat.le_trans hbz hb5.size
          have hlt5 : bl < w1.heap.size := Nat.lt_of_lt_of_le hbl hz1
          replace hS5 := Lib.hid hS5
          clear hW5 hb5 hS hb
          have p0 := hD.cell 0; have p1 := hD.cell 1; have p2 := hD.cell 2; have p3 := hD.cell 3; have p4 := hD.cell 4
          simp at p0 p1 p2 p3 p4
          refine wp_region_late (fun w' => w'.cell? ⟨wr.heap.size, 0, none⟩ = some (.int .u8 6) ∧ w'.cell? ⟨wr.heap.size, 1, none⟩ = some (.string ⟨#[]⟩) ∧ w'.cell? ⟨wr.heap.size, 2, none⟩ = some (.int .i64 0) ∧ w'.cell? ⟨wr.heap.size, 3, none⟩ = some (.int .i64 0) ∧ w'.cell? ⟨wr.heap.size, 4, none⟩ = some (.bool false) ∧ w'.cell? ⟨bl, of + i * 5, none⟩ = some (.int .u8 d.k) ∧ w'.cell? ⟨bl, of + i * 5 + 1, none⟩ = some (.string d.t) ∧ w'.cell? ⟨bl, of + i * 5 + 2, none⟩ = some (.int .i64 d.b) ∧ w'.cell? ⟨bl, of + i * 5 + 3, none⟩ = some (.int .i64 d.n) ∧ w'.cell? ⟨bl, of + i * 5 + 4, none⟩ = some (.bool d.e)) 10 (by kernel_rfl) (by first | go_keep | (dsimp only; go_keep)) (fun hHeld => ?_)
          refine wpLate_take (i := 0) (v := ?_) rfl (by kernel_rfl) (fun _ _ _ h => h) (Or.inl ⟨by rfl, ?_⟩) hHeld ?_
          rotate_left
          · (intro w hSw; (try dsimp only at hSw); go_simp; try with_reducible rfl)
          simp only [Act.put, List.setIfInBounds_toArray, List.set_cons_zero, List.set_cons_succ]
          refine wpLate_take (i := 1) (v := ?_) rfl (by kernel_rfl) (fun _ _ _ h => h) (Or.inl ⟨by rfl, ?_⟩) hHeld ?_
          rotate_left
          · (intro w hSw; (try dsimp only at hSw); go_simp; try with_reducible rfl)
          simp only [Act.put, List.setIfInBounds_toArray, List.set_cons_zero, List.set_cons_succ]
          refine wpLate_take (i := 2) (v := ?_) rfl (by kernel_rfl) (fun _ _ _ h => h) (Or.inl ⟨by rfl, ?_⟩) hHeld ?_
          rotate_left
          · (intro w hSw; (try dsimp only at hSw); go_simp; try with_reducible rfl)
          simp only [Act.put, List.setIfInBounds_toArray, List.set_cons_zero, List.set_cons_succ]
          refine wpLate_take (i := 3) (v := ?_) rfl (by kernel_rfl) (fun _ _ _ h => h) (Or.inl ⟨by rfl, ?_⟩) hHeld ?_
          rotate_left
          · (intro w hSw; (try dsimp only at hSw); go_simp; try with_reducible rfl)
          simp only [Act.put, List.setIfInBounds_toArray, List.set_cons_zero, List.set_cons_succ]
          refine wpLate_take (i := 4) (v := ?_) rfl (by kernel_rfl) (fun _ _ _ h => h) (Or.inl ⟨by rfl, ?_⟩) hHeld ?_
          rotate_left
          · (intro w hSw; (try dsimp only at hSw); go_simp; try with_reducible rfl)
          simp only [Act.put, List.setIfInBounds_toArray, List.set_cons_zero, List.set_cons_succ]
          refine wpLate_take (i := 5) (v := ?_) rfl (by kernel_rfl) (fun _ _ _ h => h) (Or.inl ⟨by rfl, ?_⟩) hHeld ?_
          rotate_left
          · (intro w hSw; (try dsimp only at hSw); go_simp; try with_reducible rfl)
          simp only [Act.put, List.setIfInBounds_toArray, List.set_cons_zero, List.set_cons_succ]
          refine wpLate_take (i := 6) (v := ?_) rfl (by kernel_rfl) (fun _ _ _ h => h) (Or.inl ⟨by rfl, ?_⟩) hHeld ?_
          rotate_left
          · (intro w hSw; (try dsimp only at hSw); go_simp; try with_reducible rfl)
          simp only [Act.put, List.setIfInBounds_toArray, List.set_cons_zero, List.set_cons_succ]
          refine wpLate_take (i := 7) (v := ?_) rfl (by kernel_rfl) (fun _ _ _ h => h) (Or.inl ⟨by rfl, ?_⟩) hHeld ?_
          rotate_left
          · (intro w hSw; (try dsimp only at hSw); go_simp; try with_reducible rfl)
          simp only [Act.put, List.setIfInBounds_toArray, List.set_cons_zero, List.set_cons_succ]
          refine wpLate_take (i := 8) (v := ?_) rfl (by kernel_rfl) (fun _ _ _ h => h) (Or.inl ⟨by rfl, ?_⟩) hHeld ?_
          rotate_left
          · (intro w hSw; (try dsimp only at hSw); go_simp; try with_reducible rfl)
          simp only [Act.put, List.setIfInBounds_toArray, List.set_cons_zero, List.set_cons_succ]
          refine wpLate_step (i := 9) (by kernel_rfl) rfl (fun K hK => ?_)
          go_simp
          refine hK.out _ _ ?_ (fun hHeld => ?_)
          · first | go_keep | (dsimp only; go_keep)
          clear hK K
          try simp only [Act.put, List.setIfInBounds_toArray, List.set_cons_zero, List.set_cons_succ]
          refine wpLate_tail (by kernel_rfl) rfl ?_
          simp only [List.drop_succ_cons, List.drop_zero]
          have hnd := new_docs W5 [idleB M i, d, kD 6, kD 7, kD 7] #[.int .u8 6, .string ⟨#[]⟩, .int .i64 0, .int .i64 0, .bool false, .int .u8 d.k, .string d.t, .int .i64 d.b, .int .i64 d.n, .bool d.e, .int .u8 6, .string ⟨#[]⟩, .int .i64 0, .int .i64 0, .bool false, .int .u8 7, .string ⟨#[]⟩, .int .i64 0, .int .i64 0, .bool false, .int .u8 7, .string ⟨#[]⟩, .int .i64 0, .int .i64 0, .bool false] (by rw [hbe.out]; rfl)
          replace hnd := Lib.hid hnd
          refine app_at rfl (.tmp 59) (.tmp 68) 44 TD rfl w1.heap.size Tryd.underlying44 infoD rfl (by decide) rfl (RowD.alloc hS5.out _) ⟨W5.heap.size, 0, none⟩ 5 5 ([idleB M i, d, kD 6, kD 7, kD 7].flatMap DocV.cells) rfl rfl hnd.out (docs_one_cells _) (by omega) (by omega) (by simp; omega) ?_
          intro v6 w6 hv6 hg6 hn6
          have hlen6 : (idle M 0 (L.take i)).length ≤ 5 * i := hlen
          have hmore := RowD.more (L := idle M 0 (L.take i)) (M := [idleB M i, d, kD 6, kD 7, kD 7]) hv6
          have hid : idleStep M i d = [idleB M i, d, kD 6, kD 7, kD 7] := by unfold idleStep; simp [hkk.out]
          rw [← hid, ← hsn.out] at hmore
          replace hmore := Lib.hid hmore; replace hg6 := Lib.hid hg6; replace hn6 := Lib.hid hn6; clear hv6
          go_wp2_with fail
          have hfin := hb5l.out.trans (((Below.refl _ _).alloc (by first | exact hz5 | (simp; omega)) _).drew.trans ((kept_of_grown hg6.out).below (by simp; omega) (fun j e => (World.ownsRow.lt hS5.out j e).1)))
          exact ⟨⟨i + 1, v6, by go_num, rfl, by omega, hmore, Lib.hid hfin⟩, hmeas⟩
        · have hk1 : ((d.k : Int) == 1) = false := by simp; omega
          have hk2 : ((d.k : Int) == 2) = true := by simp; omega
          have hkk := Lib.hid (show d.k = 2 by omega)
          have hbe : idleB M i = bgD 0 false := by unfold idleB; rw [List.length_eq_zero_iff.1 hm.out]; rfl
          replace hbe := Lib.hid hbe; clear hk
          go_wp2_with fail
          obtain ⟨W5, hW5⟩ : ∃ W5, wr.alloc (.cells #[.int .u8 6, .string ⟨#[]⟩, .int .i64 0, .int .i64 0, .bool false] TD) = W5 := ⟨_, rfl⟩
          rw [hW5]
          have hD : Blk W5 wr.heap.size #[.int .u8 6, .string ⟨#[]⟩, .int .i64 0, .int .i64 0, .bool false] TD := by rw [← hW5]; exact Blk.new _ _ _
          have hb5 : Below wr.heap.size wr W5 := by rw [← hW5]; exact (Below.refl _ _).alloc (Nat.le_refl _) _
          have hS5 := hS.out.below hb5
          have hb5l := Lib.hid (hb.out.trans (hb5.mono hbz))
          have c0 := keepC hb5 c0; have c1 := keepC hb5 c1; have c2 := keepC hb5 c2; have c3 := keepC hb5 c3; have c4 := keepC hb5 c4
          have hz5 : w1.heap.size ≤ W5.heap.size := Nat.le_trans hbz hb5.size
          have hlt5 : bl < w1.heap.size := Nat.lt_of_lt_of_le hbl hz1
          replace hS5 := Lib.hid hS5
          clear hW5 hb5 hS hb
          have p0 := hD.cell 0; have p1 := hD.cell 1; have p2 := hD.cell 2; have p3 := hD.cell 3; have p4 := hD.cell 4
          simp at p0 p1 p2 p3 p4
          refine wp_region_late (fun w' => w'.cell? ⟨wr.heap.size, 0, none⟩ = some (.int .u8 6) ∧ w'.cell? ⟨wr.heap.size, 1, none⟩ = some (.string ⟨#[]⟩) ∧ w'.cell? ⟨wr.heap.size, 2, none⟩ = some (.int .i64 0) ∧ w'.cell? ⟨wr.heap.size, 3, none⟩ = some (.int .i64 0) ∧ w'.cell? ⟨wr.heap.size, 4, none⟩ = some (.bool false) ∧ w'.cell? ⟨bl, of + i * 5, none⟩ = some (.int .u8 d.k) ∧ w'.cell? ⟨bl, of + i * 5 + 1, none⟩ = some (.string d.t) ∧ w'.cell? ⟨bl, of + i * 5 + 2, none⟩ = some (.int .i64 d.b) ∧ w'.cell? ⟨bl, of + i * 5 + 3, none⟩ = some (.int .i64 d.n) ∧ w'.cell? ⟨bl, of + i * 5 + 4, none⟩ = some (.bool d.e)) 10 (by kernel_rfl) (by first | go_keep | (dsimp only; go_keep)) (fun hHeld => ?_)
          refine wpLate_take (i := 0) (v := ?_) rfl (by kernel_rfl) (fun _ _ _ h => h) (Or.inl ⟨by rfl, ?_⟩) hHeld ?_
          rotate_left
          · (intro w hSw; (try dsimp only at hSw); go_simp; try with_reducible rfl)
          simp only [Act.put, List.setIfInBounds_toArray, List.set_cons_zero, List.set_cons_succ]
          refine wpLate_take (i := 1) (v := ?_) rfl (by kernel_rfl) (fun _ _ _ h => h) (Or.inl ⟨by rfl, ?_⟩) hHeld ?_
          rotate_left
          · (intro w hSw; (try dsimp only at hSw); go_simp; try with_reducible rfl)
          simp only [Act.put, List.setIfInBounds_toArray, List.set_cons_zero, List.set_cons_succ]
          refine wpLate_take (i := 2) (v := ?_) rfl (by kernel_rfl) (fun _ _ _ h => h) (Or.inl ⟨by rfl, ?_⟩) hHeld ?_
          rotate_left
          · (intro w hSw; (try dsimp only at hSw); go_simp; try with_reducible rfl)
          simp only [Act.put, List.setIfInBounds_toArray, List.set_cons_zero, List.set_cons_succ]
          refine wpLate_take (i := 3) (v := ?_) rfl (by kernel_rfl) (fun _ _ _ h => h) (Or.inl ⟨by rfl, ?_⟩) hHeld ?_
          rotate_left
          · (intro w hSw; (try dsimp only at hSw); go_simp; try with_reducible rfl)
          simp only [Act.put, List.setIfInBounds_toArray, List.set_cons_zero, List.set_cons_succ]
          refine wpLate_take (i := 4) (v := ?_) rfl (by kernel_rfl) (fun _ _ _ h => h) (Or.inl ⟨by rfl, ?_⟩) hHeld ?_
          rotate_left
          · (intro w hSw; (try dsimp only at hSw); go_simp; try with_reducible rfl)
          simp only [Act.put, List.setIfInBounds_toArray, List.set_cons_zero, List.set_cons_succ]
          refine wpLate_take (i := 5) (v := ?_) rfl (by kernel_rfl) (fun _ _ _ h => h) (Or.inl ⟨by rfl, ?_⟩) hHeld ?_
          rotate_left
          · (intro w hSw; (try dsimp only at hSw); go_simp; try with_reducible rfl)
          simp only [Act.put, List.setIfInBounds_toArray, List.set_cons_zero, List.set_cons_succ]
          refine wpLate_take (i := 6) (v := ?_) rfl (by kernel_rfl) (fun _ _ _ h => h) (Or.inl ⟨by rfl, ?_⟩) hHeld ?_
          rotate_left
          · (intro w hSw; (try dsimp only at hSw); go_simp; try with_reducible rfl)
          simp only [Act.put, List.setIfInBounds_toArray, List.set_cons_zero, List.set_cons_succ]
          refine wpLate_take (i := 7) (v := ?_) rfl (by kernel_rfl) (fun _ _ _ h => h) (Or.inl ⟨by rfl, ?_⟩) hHeld ?_
          rotate_left
          · (intro w hSw; (try dsimp only at hSw); go_simp; try with_reducible rfl)
          simp only [Act.put, List.setIfInBounds_toArray, List.set_cons_zero, List.set_cons_succ]
          refine wpLate_take (i := 8) (v := ?_) rfl (by kernel_rfl) (fun _ _ _ h => h) (Or.inl ⟨by rfl, ?_⟩) hHeld ?_
          rotate_left
          · (intro w hSw; (try dsimp only at hSw); go_simp; try with_reducible rfl)
          simp only [Act.put, List.setIfInBounds_toArray, List.set_cons_zero, List.set_cons_succ]
          refine wpLate_step (i := 9) (by kernel_rfl) rfl (fun K hK => ?_)
          go_simp
          refine hK.out _ _ ?_ (fun hHeld => ?_)
          · first | go_keep | (dsimp only; go_keep)
          clear hK K
          try simp only [Act.put, List.setIfInBounds_toArray, List.set_cons_zero, List.set_cons_succ]
          refine wpLate_tail (by kernel_rfl) rfl ?_
          simp only [List.drop_succ_cons, List.drop_zero]
          have hnd := new_docs W5 [idleB M i, d, kD 6, kD 7, kD 7] #[.int .u8 6, .string ⟨#[]⟩, .int .i64 0, .int .i64 0, .bool false, .int .u8 d.k, .string d.t, .int .i64 d.b, .int .i64 d.n, .bool d.e, .int .u8 6, .string ⟨#[]⟩, .int .i64 0, .int .i64 0, .bool false, .int .u8 7, .string ⟨#[]⟩, .int .i64 0, .int .i64 0, .bool false, .int .u8 7, .string ⟨#[]⟩, .int .i64 0, .int .i64 0, .bool false] (by rw [hbe.out]; rfl)
          replace hnd := Lib.hid hnd
          refine app_at rfl (.tmp 59) (.tmp 68) 44 TD rfl w1.heap.size Tryd.underlying44 infoD rfl (by decide) rfl (RowD.alloc hS5.out _) ⟨W5.heap.size, 0, none⟩ 5 5 ([idleB M i, d, kD 6, kD 7, kD 7].flatMap DocV.cells) rfl rfl hnd.out (docs_one_cells _) (by omega) (by omega) (by simp; omega) ?_
          intro v6 w6 hv6 hg6 hn6
          have hlen6 : (idle M 0 (L.take i)).length ≤ 5 * i := hlen
          have hmore := RowD.more (L := idle M 0 (L.take i)) (M := [idleB M i, d, kD 6, kD 7, kD 7]) hv6
          have hid : idleStep M i d = [idleB M i, d, kD 6, kD 7, kD 7] := by unfold idleStep; simp [hkk.out]
          rw [← hid, ← hsn.out] at hmore
          replace hmore := Lib.hid hmore; replace hg6 := Lib.hid hg6; replace hn6 := Lib.hid hn6; clear hv6
          go_wp2_with fail
          have hfin := hb5l.out.trans (((Below.refl _ _).alloc (by first | exact hz5 | (simp; omega)) _).drew.trans ((kept_of_grown hg6.out).below (by simp; omega) (fun j e => (World.ownsRow.lt hS5.out j e).1)))
          exact ⟨⟨i + 1, v6, by go_num, rfl, by omega, hmore, Lib.hid hfin⟩, hmeas⟩
        · have hk1 : ((d.k : Int) == 1) = false := by simp; omega
          have hk2 : ((d.k : Int) == 2) = false := by simp; omega
          have hkk := Lib.hid (show ¬ d.k = 1 ∧ ¬ d.k = 2 by omega)
          have hbe : idleB M i = bgD 0 false := by unfold idleB; rw [List.length_eq_zero_iff.1 hm.out]; rfl
          replace hbe := Lib.hid hbe; clear hk
          have hb5 : Below wr.heap.size wr (wr.alloc (.cells #[.int .u8 6, .string ⟨#[]⟩, .int .i64 0, .int .i64 0, .bool false] TD)) := (Below.refl _ _).alloc (Nat.le_refl _) _
          have hS5 := hS.out.below hb5
          have hb5l := Lib.hid (hb.out.trans (hb5.mono hbz))
          have hze : (wr.alloc (.cells #[.int .u8 6, .string ⟨#[]⟩, .int .i64 0, .int .i64 0, .bool false] TD)).heap.size = wr.heap.size + 1 := by simp
          have hnd := new_docs (wr.alloc (.cells #[.int .u8 6, .string ⟨#[]⟩, .int .i64 0, .int .i64 0, .bool false] TD)) [d] #[.int .u8 d.k, .string d.t, .int .i64 d.b, .int .i64 d.n, .bool d.e] rfl
          rw [hze] at hnd
          have hz5 : w1.heap.size ≤ wr.heap.size + 1 + 1 := by omega
          replace hnd := Lib.hid hnd
          replace hS5 := Lib.hid hS5
          clear hb5 hS hb hze
          go_wp2_with (at_builtin; refine app_at rfl (.tmp 70) (.tmp 75) 44 TD rfl w1.heap.size Tryd.underlying44 infoD rfl (by decide) rfl (RowD.alloc hS5.out _) ⟨wr.heap.size + 1, 0, none⟩ 1 1 ([d].flatMap DocV.cells) rfl rfl hnd.out (docs_one_cells _) (by omega) (by omega) (by simp; omega) ?_; intro v6 w6 hv6 hg6 hn6)
          have hlen6 : (idle M 0 (L.take i)).length ≤ 5 * i := hlen
          have hmore := RowD.more (L := idle M 0 (L.take i)) (M := [d]) hv6
          have hid : idleStep M i d = [d] := by unfold idleStep; simp [hkk.out]
          rw [← hid, ← hsn.out] at hmore
          replace hmore := Lib.hid hmore; replace hg6 := Lib.hid hg6; replace hn6 := Lib.hid hn6; clear hv6
          go_wp2_with fail
          have hfin := hb5l.out.trans (((Below.refl _ _).alloc (by first | exact hz5 | (simp; omega)) _).trans ((kept_of_grown hg6.out).below (by simp; omega) (fun j e => (World.ownsRow.lt hS5.out j e).1)))
          exact ⟨⟨i + 1, v6, by go_num, rfl, by omega, hmore, Lib.hid hfin⟩, hmeas⟩
      · obtain ⟨m, hmd⟩ : ∃ m, M[i % M.length]? = some m := ⟨_, List.getElem?_eq_getElem (Nat.mod_lt _ hm)⟩
        obtain ⟨bm, om, rfl, q0, q1, q2, q3, q4⟩ := (hM.out.below hb0.out) (i % M.length) m hmd
        have hj1 : (i : Int) % (M.length : Int) < M.length := Int.emod_lt_of_pos _ (by omega)
        have hj0 : 0 ≤ (i : Int) % (M.length : Int) := Int.emod_nonneg _ (by omega)
        have hm1 : (0 : Int) < M.length := by omega
        have hwm := hwf.out m (List.mem_of_getElem? hmd)
        have hbm := cell_lt q0
        have n2 : wr.heap.size ≠ bm := by omega
        have n3 : wr.heap.size + 1 ≠ bm := by omega
        replace hmd := Lib.hid hmd; replace hwm := hwm
        rcases kinds3 d.k with hk | hk | hk
        · have hk1 : ((d.k : Int) == 1) = true := by simp; omega
          have hkk := Lib.hid (show d.k = 1 by omega)
          have hbe : idleB M i = bgD (pickV m.n 1001) m.e := by unfold idleB; rw [hmd.out]
          replace hbe := Lib.hid hbe; clear hk
          go_wp2_with fail
          refine (l8_pick m.n 1001 _ (by decide) hwm).mono ?_
          rintro e w' ⟨rfl, rfl⟩
          go_wp2_with fail
          obtain ⟨W5, hW5⟩ : ∃ W5, (wr.alloc (.cells #[.int .u8 6, .string ⟨#[]⟩, .int .i64 0, .int .i64 (pickV m.n 1001), .bool m.e] TD)).alloc (.cells #[.int .u8 m.k, .string m.t, .int .i64 m.b, .int .i64 m.n, .bool m.e] TD) = W5 := ⟨_, rfl⟩
          rw [hW5]
          have hD : Blk W5 wr.heap.size #[.int .u8 6, .string ⟨#[]⟩, .int .i64 0, .int .i64 (pickV m.n 1001), .bool m.e] TD := by rw [← hW5]; exact (Blk.new _ _ _).alloc _
          have hb5 : Below wr.heap.size wr W5 := by rw [← hW5]; exact ((Below.refl _ _).alloc (Nat.le_refl _) _).alloc (by simp) _
          have hS5 := hS.out.below hb5
          have hb5l := Lib.hid (hb.out.trans (hb5.mono hbz))
          have c0 := keepC hb5 c0; have c1 := keepC hb5 c1; have c2 := keepC hb5 c2; have c3 := keepC hb5 c3; have c4 := keepC hb5 c4
          have hz5 : w1.heap.size ≤ W5.heap.size := Nat.le_trans hbz hb5.size
          have hlt5 : bl < w1.heap.size := Nat.lt_of_lt_of_le hbl hz1
          replace hS5 := Lib.hid hS5
          clear hW5 hb5 hS hb
          have p0 := hD.cell 0; have p1 := hD.cell 1; have p2 := hD.cell 2; have p3 := hD.cell 3; have p4 := hD.cell 4
          simp at p0 p1 p2 p3 p4
          refine wp_region_late (fun w' => w'.cell? ⟨wr.heap.size, 0, none⟩ = some (.int .u8 6) ∧ w'.cell? ⟨wr.heap.size, 1, none⟩ = some (.string ⟨#[]⟩) ∧ w'.cell? ⟨wr.heap.size, 2, none⟩ = some (.int .i64 0) ∧ w'.cell? ⟨wr.heap.size, 3, none⟩ = some (.int .i64 (pickV m.n 1001)) ∧ w'.cell? ⟨wr.heap.size, 4, none⟩ = some (.bool m.e) ∧ w'.cell? ⟨bl, of + i * 5, none⟩ = some (.int .u8 d.k) ∧ w'.cell? ⟨bl, of + i * 5 + 1, none⟩ = some (.string d.t) ∧ w'.cell? ⟨bl, of + i * 5 + 2, none⟩ = some (.int .i64 d.b) ∧ w'.cell? ⟨bl, of + i * 5 + 3, none⟩ = some (.int .i64 d.n) ∧ w'.cell? ⟨bl, of + i * 5 + 4, none⟩ = some (.bool d.e)) 10 (by kernel_rfl) (by first | go_keep | (dsimp only; go_keep)) (fun hHeld => ?_)
          refine wpLate_take (i := 0) (v := ?_) rfl (by kernel_rfl) (fun _ _ _ h => h) (Or.inl ⟨by rfl, ?_⟩) hHeld ?_
          rotate_left
          · (intro w hSw; (try dsimp only at hSw); go_simp; try with_reducible rfl)
          simp only [Act.put, List.setIfInBounds_toArray, List.set_cons_zero, List.set_cons_succ]
          refine wpLate_take (i := 1) (v := ?_) rfl (by kernel_rfl) (fun _ _ _ h => h) (Or.inl ⟨by rfl, ?_⟩) hHeld ?_
          rotate_left
          · (intro w hSw; (try dsimp only at hSw); go_simp; try with_reducible rfl)
          simp only [Act.put, List.setIfInBounds_toArray, List.set_cons_zero, List.set_cons_succ]
          refine wpLate_take (i := 2) (v := ?_) rfl (by kernel_rfl) (fun _ _ _ h => h) (Or.inl ⟨by rfl, ?_⟩) hHeld ?_
          rotate_left
          · (intro w hSw; (try dsimp only at hSw); go_simp; try with_reducible rfl)
          simp only [Act.put, List.setIfInBounds_toArray, List.set_cons_zero, List.set_cons_succ]
          refine wpLate_take (i := 3) (v := ?_) rfl (by kernel_rfl) (fun _ _ _ h => h) (Or.inl ⟨by rfl, ?_⟩) hHeld ?_
          rotate_left
          · (intro w hSw; (try dsimp only at hSw); go_simp; try with_reducible rfl)
          simp only [Act.put, List.setIfInBounds_toArray, List.set_cons_zero, List.set_cons_succ]
          refine wpLate_take (i := 4) (v := ?_) rfl (by kernel_rfl) (fun _ _ _ h => h) (Or.inl ⟨by rfl, ?_⟩) hHeld ?_
          rotate_left
          · (intro w hSw; (try dsimp only at hSw); go_simp; try with_reducible rfl)
          simp only [Act.put, List.setIfInBounds_toArray, List.set_cons_zero, List.set_cons_succ]
          refine wpLate_take (i := 5) (v := ?_) rfl (by kernel_rfl) (fun _ _ _ h => h) (Or.inl ⟨by rfl, ?_⟩) hHeld ?_
          rotate_left
          · (intro w hSw; (try dsimp only at hSw); go_simp; try with_reducible rfl)
          simp only [Act.put, List.setIfInBounds_toArray, List.set_cons_zero, List.set_cons_succ]
          refine wpLate_take (i := 6) (v := ?_) rfl (by kernel_rfl) (fun _ _ _ h => h) (Or.inl ⟨by rfl, ?_⟩) hHeld ?_
          rotate_left
          · (intro w hSw; (try dsimp only at hSw); go_simp; try with_reducible rfl)
          simp only [Act.put, List.setIfInBounds_toArray, List.set_cons_zero, List.set_cons_succ]
          refine wpLate_take (i := 7) (v := ?_) rfl (by kernel_rfl) (fun _ _ _ h => h) (Or.inl ⟨by rfl, ?_⟩) hHeld ?_
          rotate_left
          · (intro w hSw; (try dsimp only at hSw); go_simp; try with_reducible rfl)
          simp only [Act.put, List.setIfInBounds_toArray, List.set_cons_zero, List.set_cons_succ]
          refine wpLate_take (i := 8) (v := ?_) rfl (by kernel_rfl) (fun _ _ _ h => h) (Or.inl ⟨by rfl, ?_⟩) hHeld ?_
          rotate_left
          · (intro w hSw; (try dsimp only at hSw); go_simp; try with_reducible rfl)
          simp only [Act.put, List.setIfInBounds_toArray, List.set_cons_zero, List.set_cons_succ]
          refine wpLate_step (i := 9) (by kernel_rfl) rfl (fun K hK => ?_)
          go_simp
          refine hK.out _ _ ?_ (fun hHeld => ?_)
          · first | go_keep | (dsimp only; go_keep)
          clear hK K
          try simp only [Act.put, List.setIfInBounds_toArray, List.set_cons_zero, List.set_cons_succ]
          refine wpLate_tail (by kernel_rfl) rfl ?_
          simp only [List.drop_succ_cons, List.drop_zero]
          have hnd := new_docs W5 [idleB M i, d, kD 6, kD 7, kD 7] #[.int .u8 6, .string ⟨#[]⟩, .int .i64 0, .int .i64 (pickV m.n 1001), .bool m.e, .int .u8 d.k, .string d.t, .int .i64 d.b, .int .i64 d.n, .bool d.e, .int .u8 6, .string ⟨#[]⟩, .int .i64 0, .int .i64 0, .bool false, .int .u8 7, .string ⟨#[]⟩, .int .i64 0, .int .i64 0, .bool false, .int .u8 7, .string ⟨#[]⟩, .int .i64 0, .int .i64 0, .bool false] (by rw [hbe.out]; rfl)
          replace hnd := Lib.hid hnd
          refine app_at rfl (.tmp 59) (.tmp 68) 44 TD rfl w1.heap.size Tryd.underlying44 infoD rfl (by decide) rfl (RowD.alloc hS5.out _) ⟨W5.heap.size, 0, none⟩ 5 5 ([idleB M i, d, kD 6, kD 7, kD 7].flatMap DocV.cells) rfl rfl hnd.out (docs_one_cells _) (by omega) (by omega) (by simp; omega) ?_
          intro v6 w6 hv6 hg6 hn6
          have hlen6 : (idle M 0 (L.take i)).length ≤ 5 * i := hlen
          have hmore := RowD.more (L := idle M 0 (L.take i)) (M := [idleB M i, d, kD 6, kD 7, kD 7]) hv6
          have hid : idleStep M i d = [idleB M i, d, kD 6, kD 7, kD 7] := by unfold idleStep; simp [hkk.out]
          rw [← hid, ← hsn.out] at hmore
          replace hmore := Lib.hid hmore; replace hg6 := Lib.hid hg6; replace hn6 := Lib.hid hn6; clear hv6
          go_wp2_with fail
          have hfin := hb5l.out.trans (((Below.refl _ _).alloc (by first | exact hz5 | (simp; omega)) _).drew.trans ((kept_of_grown hg6.out).below (by simp; omega) (fun j e => (World.ownsRow.lt hS5.out j e).1)))
          exact ⟨⟨i + 1, v6, by go_num, rfl, by omega, hmore, Lib.hid hfin⟩, hmeas⟩
        · have hk1 : ((d.k : Int) == 1) = false := by simp; omega
          have hk2 : ((d.k : Int) == 2) = true := by simp; omega
          have hkk := Lib.hid (show d.k = 2 by omega)
          have hbe : idleB M i = bgD (pickV m.n 1001) m.e := by unfold idleB; rw [hmd.out]
          replace hbe := Lib.hid hbe; clear hk
          go_wp2_with fail
          refine (l8_pick m.n 1001 _ (by decide) hwm).mono ?_
          rintro e w' ⟨rfl, rfl⟩
          go_wp2_with fail
          obtain ⟨W5, hW5⟩ : ∃ W5, (wr.alloc (.cells #[.int .u8 6, .string ⟨#[]⟩, .int .i64 0, .int .i64 (pickV m.n 1001), .bool m.e] TD)).alloc (.cells #[.int .u8 m.k, .string m.t, .int .i64 m.b, .int .i64 m.n, .bool m.e] TD) = W5 := ⟨_, rfl⟩
          rw [hW5]
          have hD : Blk W5 wr.heap.size #[.int .u8 6, .string ⟨#[]⟩, .int .i64 0, .int .i64 (pickV m.n 1001), .bool m.e] TD := by rw [← hW5]; exact (Blk.new _ _ _).alloc _
          have hb5 : Below wr.heap.size wr W5 := by rw [← hW5]; exact ((Below.refl _ _).alloc (Nat.le_refl _) _).alloc (by simp) _
          have hS5 := hS.out.below hb5
          have hb5l := Lib.hid (hb.out.trans (hb5.mono hbz))
          have c0 := keepC hb5 c0; have c1 := keepC hb5 c1; have c2 := keepC hb5 c2; have c3 := keepC hb5 c3; have c4 := keepC hb5 c4
          have hz5 : w1.heap.size ≤ W5.heap.size := Nat.le_trans hbz hb5.size
          have hlt5 : bl < w1.heap.size := Nat.lt_of_lt_of_le hbl hz1
          replace hS5 := Lib.hid hS5
          clear hW5 hb5 hS hb
          have p0 := hD.cell 0; have p1 := hD.cell 1; have p2 := hD.cell 2; have p3 := hD.cell 3; have p4 := hD.cell 4
          simp at p0 p1 p2 p3 p4
          refine wp_region_late (fun w' => w'.cell? ⟨wr.heap.size, 0, none⟩ = some (.int .u8 6) ∧ w'.cell? ⟨wr.heap.size, 1, none⟩ = some (.string ⟨#[]⟩) ∧ w'.cell? ⟨wr.heap.size, 2, none⟩ = some (.int .i64 0) ∧ w'.cell? ⟨wr.heap.size, 3, none⟩ = some (.int .i64 (pickV m.n 1001)) ∧ w'.cell? ⟨wr.heap.size, 4, none⟩ = some (.bool m.e) ∧ w'.cell? ⟨bl, of + i * 5, none⟩ = some (.int .u8 d.k) ∧ w'.cell? ⟨bl, of + i * 5 + 1, none⟩ = some (.string d.t) ∧ w'.cell? ⟨bl, of + i * 5 + 2, none⟩ = some (.int .i64 d.b) ∧ w'.cell? ⟨bl, of + i * 5 + 3, none⟩ = some (.int .i64 d.n) ∧ w'.cell? ⟨bl, of + i * 5 + 4, none⟩ = some (.bool d.e)) 10 (by kernel_rfl) (by first | go_keep | (dsimp only; go_keep)) (fun hHeld => ?_)
          refine wpLate_take (i := 0) (v := ?_) rfl (by kernel_rfl) (fun _ _ _ h => h) (Or.inl ⟨by rfl, ?_⟩) hHeld ?_
          rotate_left
          · (intro w hSw; (try dsimp only at hSw); go_simp; try with_reducible rfl)
          simp only [Act.put, List.setIfInBounds_toArray, List.set_cons_zero, List.set_cons_succ]
          refine wpLate_take (i := 1) (v := ?_) rfl (by kernel_rfl) (fun _ _ _ h => h) (Or.inl ⟨by rfl, ?_⟩) hHeld ?_
          rotate_left
          · (intro w hSw; (try dsimp only at hSw); go_simp; try with_reducible rfl)
          simp only [Act.put, List.setIfInBounds_toArray, List.set_cons_zero, List.set_cons_succ]
          refine wpLate_take (i := 2) (v := ?_) rfl (by kernel_rfl) (fun _ _ _ h => h) (Or.inl ⟨by rfl, ?_⟩) hHeld ?_
          rotate_left
          · (intro w hSw; (try dsimp only at hSw); go_simp; try with_reducible rfl)
          simp only [Act.put, List.setIfInBounds_toArray, List.set_cons_zero, List.set_cons_succ]
          refine wpLate_take (i := 3) (v := ?_) rfl (by kernel_rfl) (fun _ _ _ h => h) (Or.inl ⟨by rfl, ?_⟩) hHeld ?_
          rotate_left
          · (intro w hSw; (try dsimp only at hSw); go_simp; try with_reducible rfl)
          simp only [Act.put, List.setIfInBounds_toArray, List.set_cons_zero, List.set_cons_succ]
          refine wpLate_take (i := 4) (v := ?_) rfl (by kernel_rfl) (fun _ _ _ h => h) (Or.inl ⟨by rfl, ?_⟩) hHeld ?_
          rotate_left
          · (intro w hSw; (try dsimp only at hSw); go_simp; try with_reducible rfl)
          simp only [Act.put, List.setIfInBounds_toArray, List.set_cons_zero, List.set_cons_succ]
          refine wpLate_take (i := 5) (v := ?_) rfl (by kernel_rfl) (fun _ _ _ h => h) (Or.inl ⟨by rfl, ?_⟩) hHeld ?_
          rotate_left
          · (intro w hSw; (try dsimp only at hSw); go_simp; try with_reducible rfl)
          simp only [Act.put, List.setIfInBounds_toArray, List.set_cons_zero, List.set_cons_succ]
          refine wpLate_take (i := 6) (v := ?_) rfl (by kernel_rfl) (fun _ _ _ h => h) (Or.inl ⟨by rfl, ?_⟩) hHeld ?_
          rotate_left
          · (intro w hSw; (try dsimp only at hSw); go_simp; try with_reducible rfl)
          simp only [Act.put, List.setIfInBounds_toArray, List.set_cons_zero, List.set_cons_succ]
          refine wpLate_take (i := 7) (v := ?_) rfl (by kernel_rfl) (fun _ _ _ h => h) (Or.inl ⟨by rfl, ?_⟩) hHeld ?_
          rotate_left
          · (intro w hSw; (try dsimp only at hSw); go_simp; try with_reducible rfl)
          simp only [Act.put, List.setIfInBounds_toArray, List.set_cons_zero, List.set_cons_succ]
          refine wpLate_take (i := 8) (v := ?_) rfl (by kernel_rfl) (fun _ _ _ h => h) (Or.inl ⟨by rfl, ?_⟩) hHeld ?_
          rotate_left
          · (intro w hSw; (try dsimp only at hSw); go_simp; try with_reducible rfl)
          simp only [Act.put, List.setIfInBounds_toArray, List.set_cons_zero, List.set_cons_succ]
          refine wpLate_step (i := 9) (by kernel_rfl) rfl (fun K hK => ?_)
          go_simp
          refine hK.out _ _ ?_ (fun hHeld => ?_)
          · first | go_keep | (dsimp only; go_keep)
          clear hK K
          try simp only [Act.put, List.setIfInBounds_toArray, List.set_cons_zero, List.set_cons_succ]
          refine wpLate_tail (by kernel_rfl) rfl ?_
          simp only [List.drop_succ_cons, List.drop_zero]
          have hnd := new_docs W5 [idleB M i, d, kD 6, kD 7, kD 7] #[.int .u8 6, .string ⟨#[]⟩, .int .i64 0, .int .i64 (pickV m.n 1001), .bool m.e, .int .u8 d.k, .string d.t, .int .i64 d.b, .int .i64 d.n, .bool d.e, .int .u8 6, .string ⟨#[]⟩, .int .i64 0, .int .i64 0, .bool false, .int .u8 7, .string ⟨#[]⟩, .int .i64 0, .int .i64 0, .bool false, .int .u8 7, .string ⟨#[]⟩, .int .i64 0, .int .i64 0, .bool false] (by rw [hbe.out]; rfl)
          replace hnd := Lib.hid hnd
          refine app_at rfl (.tmp 59) (.tmp 68) 44 TD rfl w1.heap.size Tryd.underlying44 infoD rfl (by decide) rfl (RowD.alloc hS5.out _) ⟨W5.heap.size, 0, none⟩ 5 5 ([idleB M i, d, kD 6, kD 7, kD 7].flatMap DocV.cells) rfl rfl hnd.out (docs_one_cells _) (by omega) (by omega) (by simp; omega) ?_
          intro v6 w6 hv6 hg6 hn6
          have hlen6 : (idle M 0 (L.take i)).length ≤ 5 * i := hlen
          have hmore := RowD.more (L := idle M 0 (L.take i)) (M := [idleB M i, d, kD 6, kD 7, kD 7]) hv6
          have hid : idleStep M i d = [idleB M i, d, kD 6, kD 7, kD 7] := by unfold idleStep; simp [hkk.out]
          rw [← hid, ← hsn.out] at hmore
          replace hmore := Lib.hid hmore; replace hg6 := Lib.hid hg6; replace hn6 := Lib.hid hn6; clear hv6
          go_wp2_with fail
          have hfin := hb5l.out.trans (((Below.refl _ _).alloc (by first | exact hz5 | (simp; omega)) _).drew.trans ((kept_of_grown hg6.out).below (by simp; omega) (fun j e => (World.ownsRow.lt hS5.out j e).1)))
          exact ⟨⟨i + 1, v6, by go_num, rfl, by omega, hmore, Lib.hid hfin⟩, hmeas⟩
        · have hk1 : ((d.k : Int) == 1) = false := by simp; omega
          have hk2 : ((d.k : Int) == 2) = false := by simp; omega
          have hkk := Lib.hid (show ¬ d.k = 1 ∧ ¬ d.k = 2 by omega)
          have hbe : idleB M i = bgD (pickV m.n 1001) m.e := by unfold idleB; rw [hmd.out]
          replace hbe := Lib.hid hbe; clear hk
          go_wp2_with fail
          refine (l8_pick m.n 1001 _ (by decide) hwm).mono ?_
          rintro e w' ⟨rfl, rfl⟩
          have hb5 : Below wr.heap.size wr ((wr.alloc (.cells #[.int .u8 6, .string ⟨#[]⟩, .int .i64 0, .int .i64 (pickV m.n 1001), .bool m.e] TD)).alloc (.cells #[.int .u8 m.k, .string m.t, .int .i64 m.b, .int .i64 m.n, .bool m.e] TD)) := ((Below.refl _ _).alloc (Nat.le_refl _) _).alloc (by simp) _
          have hS5 := hS.out.below hb5
          have hb5l := Lib.hid (hb.out.trans (hb5.mono hbz))
          have hze : ((wr.alloc (.cells #[.int .u8 6, .string ⟨#[]⟩, .int .i64 0, .int .i64 (pickV m.n 1001), .bool m.e] TD)).alloc (.cells #[.int .u8 m.k, .string m.t, .int .i64 m.b, .int .i64 m.n, .bool m.e] TD)).heap.size = wr.heap.size + 1 + 1 := by simp
          have hnd := new_docs ((wr.alloc (.cells #[.int .u8 6, .string ⟨#[]⟩, .int .i64 0, .int .i64 (pickV m.n 1001), .bool m.e] TD)).alloc (.cells #[.int .u8 m.k, .string m.t, .int .i64 m.b, .int .i64 m.n, .bool m.e] TD)) [d] #[.int .u8 d.k, .string d.t, .int .i64 d.b, .int .i64 d.n, .bool d.e] rfl
          rw [hze] at hnd
          have hz5 : w1.heap.size ≤ wr.heap.size + 1 + 1 := by omega
          replace hnd := Lib.hid hnd
          replace hS5 := Lib.hid hS5
          clear hb5 hS hb hze
          go_wp2_with (at_builtin; refine app_at rfl (.tmp 70) (.tmp 75) 44 TD rfl w1.heap.size Tryd.underlying44 infoD rfl (by decide) rfl (RowD.alloc hS5.out _) ⟨wr.heap.size + 1 + 1, 0, none⟩ 1 1 ([d].flatMap DocV.cells) rfl rfl hnd.out (docs_one_cells _) (by omega) (by omega) (by simp; omega) ?_; intro v6 w6 hv6 hg6 hn6)
          have hlen6 : (idle M 0 (L.take i)).length ≤ 5 * i := hlen
          have hmore := RowD.more (L := idle M 0 (L.take i)) (M := [d]) hv6
          have hid : idleStep M i d = [d] := by unfold idleStep; simp [hkk.out]
          rw [← hid, ← hsn.out] at hmore
          replace hmore := Lib.hid hmore; replace hg6 := Lib.hid hg6; replace hn6 := Lib.hid hn6; clear hv6
          go_wp2_with fail
          have hfin := hb5l.out.trans (((Below.refl _ _).alloc (by first | exact hz5 | (simp; omega)) _).trans ((kept_of_grown hg6.out).below (by simp; omega) (fun j e => (World.ownsRow.lt hS5.out j e).1)))
          exact ⟨⟨i + 1, v6, by go_num, rfl, by omega, hmore, Lib.hid hfin⟩, hmeas⟩
    · have hi1 : ¬ (i : Int) < L.length := by omega
      have he : i = L.length := by omega
      subst he
      have hS' := hS.out
      rw [List.take_length] at hS'
      obtain ⟨ao, cap, rfl, hD⟩ := hS'.docs
      have hlen := idle_len M L 0
      have hci : cost (idle M 0 L) ≤ 17179869184 := by have := cost_idle M L 0; have := hcL.out; omega
      have hp2 := whole_Print W ao cap (idle M 0 L) wr hD (by omega) hci (hT.out.below hb0) (Nat.lt_of_lt_of_le hg1 hb0.size) (Nat.lt_of_lt_of_le hg2 hb0.size)
      rw [idle_res, hres.out] at hp2
      have haw := fun w2 (h : Below w.heap.size w w2) => awake8 w2 (hT.out.below h) (Nat.lt_of_lt_of_le hg1 h.size) (Nat.lt_of_lt_of_le hg2 h.size)
      replace hp2 := Lib.hid hp2; replace haw := Lib.hid haw; replace hb0 := Lib.hid hb0
      clear hS hS' hD hb
      go_wp2_with fail
      refine hp2.out.mono ?_
      rintro e w2 ⟨rfl, b2⟩
      replace b2 := Lib.hid (hb0.out.trans (b2.mono hb0.out.size))
      go_wp2_with fail
      refine (haw.out _ b2.out).mono ?_
      rintro e w3 ⟨rfl, b3⟩
      replace b3 := Lib.hid (b2.out.trans (b3.mono b2.out.size))
      go_wp2_with fail
      go_ret
      exact ⟨by simp, b3.out⟩
end Go.Proofs.YtphcmbdmkhmfbaaDoor
