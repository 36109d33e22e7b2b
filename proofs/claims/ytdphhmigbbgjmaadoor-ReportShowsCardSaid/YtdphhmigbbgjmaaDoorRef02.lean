/- The reference's widths (package colophonref02): in, Of, Text; and the reference's Points. Conditions: the text has at most 2^40 bytes. -/
import Derived.Test.YtdphhmigbbgjmaaDoorWidth
import Derived.Test.YtdphhmigbbgjmaaDoorWid
import Derived.OwnWalk
import Derived.Lib.OthersKept
import Derived.Test.YtdphhmigbbgjmaaDoorM2
import Derived.Test.YtdphhmigbbgjmaaDoorM1
import Derived.Deep.RegionHeld3
import Derived.Great.BuildSlice
namespace Go.Proofs.YtdphhmigbbgjmaaDoor
open Go.RowKit Go.Lib
attribute [local go_sem] byteAt_get wrap64_byteAt

theorem take_two {α : Type} (l : List α) (j : Nat) (hj : j + 1 < l.length) : l.take (j + 2) = l.take j ++ [l[j], l[j + 1]] := by
  have h1 : l.take (j + 1 + 1) = l.take (j + 1) ++ [l[j + 1]] := by simp
  have h2 : l.take (j + 1) = l.take j ++ [l[j]'(by omega)] := by simp
  rw [h2] at h1
  rw [show j + 2 = j + 1 + 1 from rfl, h1, List.append_assoc]; rfl
theorem wPairs_take (p : Int) (l : List Int) (j : Nat) (he : j % 2 = 0) (hj : j + 1 < l.length) : wPairs p (l.take (j + 2)) = (wPairs p (l.take j) || (decide (l[j] ≤ p) && decide (p ≤ l[j + 1]))) := by
  rw [take_two l j hj, wPairs_append p (j / 2) _ _ (by rw [List.length_take]; omega)]
  simp [wPairs]
theorem wPairs_of (p : Int) (l : List Int) (j : Nat) (he : j % 2 = 0) (hj : j + 1 < l.length) (h1 : l[j] ≤ p) (h2 : p ≤ l[j + 1]) : wPairs p l = true := by
  have h := wPairs_append p ((j + 2) / 2) (l.take (j + 2)) (l.drop (j + 2)) (by rw [List.length_take]; omega)
  rw [List.take_append_drop, wPairs_take p l j he hj] at h
  rw [h]; simp [h1, h2]

set_option maxHeartbeats 4000000 in
theorem r2_in (p : Int) (l : List Int) (b cap : Nat) (w : World) (hl : l.length < 1099511627776) (hev : l.length % 2 = 0) (hc : ∀ j (h : j < l.length), w.cell? ⟨b, j, none⟩ = some (.int .i64 l[j])) :
    Calls Tryd.prog 170 #[.int .i64 p, .slice (some ⟨b, 0, none⟩) l.length cap] w fun e w' => e = .returned (.bool (wPairs p l)) ∧ w' = w := by
  replace hc := Lib.hid hc
  go_enter Tryd.func170, Tryd.ntmps170
  go_wp2
  go_loopw [5] (fun iv W => ∃ j : Nat, iv = .int .i64 j ∧ j % 2 = 0 ∧ j ≤ l.length ∧ Hid (wPairs p (l.take j) = false) ∧ W = w) (fun iv _ => l.length - (RowKit.intOf iv).toNat)
  case atStart => exact ⟨0, rfl, rfl, by omega, rfl, rfl⟩
  case round =>
    obtain ⟨j, rfl, he, hj, hno, rfl⟩ := hrel
    have w1 : IntKind.i64.wrap ((j : Int) + 1) = j + 1 := IntWalk.i64_in _ (by omega)
    have w2 : IntKind.i64.wrap ((j : Int) + 2) = j + 2 := IntWalk.i64_in _ (by omega)
    by_cases hlt : j + 1 < l.length
    · have c1 := hc.out j (by omega)
      have c2 := hc.out (j + 1) hlt
      have hk := wPairs_take p l j he hlt
      have hy := wPairs_of p l j he hlt
      rw [hno.out, Bool.false_or] at hk
      obtain ⟨x, hx⟩ : ∃ x, l[j] = x := ⟨_, rfl⟩
      obtain ⟨y, hy'⟩ : ∃ y, l[j + 1] = y := ⟨_, rfl⟩
      rw [hx] at c1 hk hy
      rw [hy'] at c2 hk hy
      replace hk := Lib.hid hk; replace hy := Lib.hid hy; replace hx := Lib.hid hx; replace hy' := Lib.hid hy'
      by_cases h1 : x ≤ p
      · by_cases h2 : p ≤ y
        · go_wp2
          go_ret
          exact ⟨by rw [hy.out h1 h2]; rfl, rfl⟩
        · go_wp2
          go_roundw
          case rel => exact ⟨j + 2, by go_num, by omega, by omega, by show _ = _; rw [hk.out]; simp [h1, h2], by trivial⟩
          case measure => simp [RowKit.intOf]; omega
      · go_wp2
        go_roundw
        case rel => exact ⟨j + 2, by go_num, by omega, by omega, by show _ = _; rw [hk.out]; simp [h1], by trivial⟩
        case measure => simp [RowKit.intOf]; omega
    · have e : wPairs p l = false := by
        have := hno.out; rwa [show j = l.length by omega, List.take_length] at this
      go_wp2
      go_ret
      exact ⟨by rw [e]; rfl, rfl⟩

theorem cells_new (w : World) (l : List Int) (t : TypeId) : ∀ j (h : j < l.length), (w.alloc (.cells (l.map (Value.int .i64)).toArray t)).cell? ⟨w.heap.size, j, none⟩ = some (.int .i64 l[j]) := fun j h => by
  rw [(Blk.new w _ t).cell j]; simp [h]
set_option maxHeartbeats 4000000 in
theorem r2_Of (p : Int) (w : World) :
    Calls Tryd.prog 140 #[.int .i64 p] w fun e w' => e = .returned (.int .i64 (widV p)) ∧ Below w.heap.size w w' := by
  go_enter Tryd.func140, Tryd.ntmps140
  go_wp2_with (refine wpList_buildFlat rfl 63 3 22 _ rfl .i64 dblL Tryd.underlying63 (by kernel_rfl) (by kernel_rfl) rfl (by omega) (by omega) rfl ?_)
  refine (r2_in p dblL w.heap.size 22 _ (by decide) (by decide) (cells_new w dblL 3)).mono ?_
  rintro e w1 ⟨rfl, rfl⟩
  have b1 := (Below.refl w.heap.size w).alloc (Nat.le_refl _) (.cells (dblL.map (Value.int .i64)).toArray 3)
  obtain ⟨W1, hW1⟩ : ∃ W1, w.alloc (.cells (dblL.map (Value.int .i64)).toArray 3) = W1 := ⟨_, rfl⟩
  rw [hW1] at b1 ⊢
  clear hW1
  go_wp2_with (refine wpList_buildFlat rfl 63 3 10 _ rfl .i64 nonL Tryd.underlying63 (by kernel_rfl) (by kernel_rfl) rfl (by omega) (by omega) rfl ?_)
  refine (r2_in p nonL W1.heap.size 10 _ (by decide) (by decide) (cells_new W1 nonL 3)).mono ?_
  rintro e w2 ⟨rfl, rfl⟩
  have b2 := b1.alloc b1.size (.cells (nonL.map (Value.int .i64)).toArray 3)
  cases hA : wPairs p dblL <;> cases hB : wPairs p nonL <;> (go_wp2; go_ret; exact ⟨by unfold widV; rw [hA, hB]; rfl, b2⟩)

theorem Tryd.info32 : (Tryd.prog.info? 3).map (fun i => (i.zero, i.size, i.bytes)) = some (some (.int .i64 0), 1, 8) := by kernel_rfl
set_option maxHeartbeats 4000000 in
/-- The reference's points. -/
theorem r1_Points (s : ByteArray) (w : World) (hs : s.size ≤ 1099511627776) :
    Calls Tryd.prog 139 #[.string s] w fun e w' => ∃ v, e = .returned v ∧ w'.ownsRow w.heap.size 3 1 v (pts s.data.toList).length ((pts s.data.toList).map (Value.int .i64)) ∧ Below w.heap.size w w' := by
  obtain ⟨i0, hi, hz0, hz1, hz2⟩ := info_parts Tryd.info32
  have hi := Lib.hid hi
  have hz0 := Lib.hid hz0
  have hz1 := Lib.hid hz1
  have hz2 := Lib.hid hz2
  go_enter Tryd.func139, Tryd.ntmps139
  go_wp2
  go_loopw [3, 4] (fun v i wr => ∃ (pos : Nat) (acc : List Int), i = .int .i64 pos ∧ pos ≤ s.size ∧ acc.length ≤ pos ∧ acc ++ pts (s.data.toList.drop pos) = pts s.data.toList ∧ wr.ownsRow w.heap.size 3 1 v acc.length (acc.map (Value.int .i64)) ∧ Below w.heap.size w wr) (fun _ i _ => s.size - (RowKit.intOf i).toNat)
  case atStart => exact ⟨0, [], rfl, Nat.zero_le _, Nat.le_refl _, by simp, World.ownsRow_nil _ _ _ _, Below.refl _ _⟩
  case round =>
    obtain ⟨pos, acc, rfl, hle, hal, hacc, hown, hb⟩ := hrel
    have hacc := Lib.hid hacc
    by_cases hp : pos < s.size
    · have hd1 := dec_pos s pos
      have hd2 := dec_le s pos hp
      have hbs := hb.size
      go_wp2_with (first
        | (at_builtin; refine wpList_append_own _ rfl _ _ 63 rfl w.heap.size 3 i0 (.int .i64 0) 1 8 Tryd.underlying63 hi.out hz0.out hz1.out hz2.out rfl (by decide) _ _ _ rfl (hown.alloc _) ⟨wr.heap.size, 0, none⟩ 1 1 [.int .i64 (Utf8.decode s pos).1] rfl rfl (cell_one_new _ _ _) (by simp [Value.oneCell']) (by unfold maxLen; omega) (by omega) (by simp; omega) ?_; intro v' w1 hown' hgrow _; have hb1 := (hb.alloc hbs _).grown hgrow (by simp; omega) (fun k e => by have := (hown.lt k e).1; omega))
        | (go_at_call 98; refine (r1_Next _ _ _ hp (by omega)).mono ?_; rintro e w' ⟨rfl, rfl⟩; unfold nextV))
      go_roundw
      case rel => exact ⟨pos + (Utf8.decode s pos).2, acc ++ [((Utf8.decode s pos).1 : Int)], by go_num, hd2, by simp; omega, by rw [← hacc.out, pts_at s pos hp]; simp, by simpa using hown', hb1⟩
      case measure => simp [RowKit.intOf]; omega
    · have e : acc = pts s.data.toList := by rw [← hacc.out, pts_end s pos (by omega), List.append_nil]
      rw [e] at hown
      clear e
      go_wp2
      go_ret
      exact ⟨_, rfl, hown, hb⟩
theorem at_off (g i : Nat) : (⟨g, 0, none⟩ : Addr).add i = ⟨g, i, none⟩ := by
  unfold Addr.add; split
  · rename_i h; simp_all
  · simp
set_option maxHeartbeats 4000000 in
theorem r2_Text (s : ByteArray) (w : World) (hs : s.size ≤ 1099511627776) :
    Calls Tryd.prog 97 #[.string s] w fun e w' => e = .returned (.int .i64 (wid s.data.toList)) ∧ Below w.heap.size w w' := by
  obtain ⟨V, hw⟩ : ∃ V, sumW (pts s.data.toList) = V := ⟨_, rfl⟩
  rw [show wid s.data.toList = V from hw]
  go_enter Tryd.func97, Tryd.ntmps97
  go_wp2_with fail
  refine (r1_Points s _ hs).mono ?_
  rintro e w1 ⟨v, rfl, hown, hb1⟩
  obtain ⟨l, hl⟩ : ∃ l, l = pts s.data.toList := ⟨_, rfl⟩
  have hlen : l.length ≤ s.size := by rw [hl, pts_len]; have := cnt_le s.data.toList; rw [size_len] at this; exact this
  rw [← hl] at hown
  rw [← hl] at hw
  clear hl
  obtain ⟨ra, rc, rfl⟩ := ownsRow_shape hown
  have hcells : ∃ g, ∀ i (hi : i < l.length), ra = some ⟨g, 0, none⟩ ∧ g < w1.heap.size ∧ w1.cell? ⟨g, i, none⟩ = some (.int .i64 l[i]) := by
    rcases hown.2 with ⟨he, h0⟩ | ⟨g, cap, cur, he, hB, hg, hle, hm, hsz, ht⟩
    · exact ⟨0, fun i hi => by omega⟩
    · injection he with e1 e2 e3
      subst e1
      refine ⟨g, fun i hi => ⟨rfl, (Array.getElem?_eq_some_iff.1 hg).1, ?_⟩⟩
      have := World.ownsRow.cells hown (g := g) rfl i (.int .i64 l[i]) (by simp [hi])
      rwa [at_off] at this
  obtain ⟨g, hcells⟩ := hcells
  replace hcells := Lib.hid hcells
  clear hown
  go_wp2
  go_loopw [3, 5] (fun nv iv W => ∃ (i : Nat) (acc : Int), iv = .int .i64 i ∧ i ≤ l.length ∧ nv = .int .i64 acc ∧ Hid (acc + sumW (l.drop i) = V) ∧ 0 ≤ acc ∧ acc ≤ 2 * i ∧ Below w.heap.size w W ∧ Below w1.heap.size w1 W) (fun _ iv _ => l.length - (RowKit.intOf iv).toNat)
  case atStart => exact ⟨0, 0, rfl, by omega, rfl, by show _ = _; simpa using hw, by omega, by omega, hb1, Below.refl _ _⟩
  case round =>
    obtain ⟨i, acc, rfl, hi, rfl, hacc, ha0, ha, hb, hb2⟩ := hrel
    by_cases hlt : i < l.length
    · obtain ⟨hra, hg, hc⟩ := hcells.out i hlt
      have hc2 := (hb2.cell (p := ⟨g, i, none⟩) hg).trans hc
      obtain ⟨x, hx⟩ : ∃ x, l[i] = x := ⟨_, rfl⟩
      have hdr : sumW (l.drop i) = widV x + sumW (l.drop (i + 1)) := by rw [List.drop_eq_getElem_cons hlt, hx]; rfl
      rw [hx] at hc2
      subst hra
      have hwv := widV_le x
      clear hc hx hcells
      go_wp2_with fail
      refine (r2_Of _ _).mono ?_
      rintro e w3 ⟨rfl, hq⟩
      obtain ⟨u, hu⟩ : ∃ u, widV x = u := ⟨_, rfl⟩
      rw [hu] at hdr hwv ⊢
      have hwr : IntKind.i64.wrap (acc + u) = acc + u := IntWalk.i64_in _ (by omega)
      have hb3 := hb.trans (hq.mono hb.size)
      have hb4 := hb2.trans (hq.mono hb2.size)
      have hacc2 : Hid (acc + u + sumW (l.drop (i + 1)) = V) := by show _ = _; rw [← hacc.out, hdr]; omega
      clear hq hu hdr hc2 hb hb2
      go_wp2
      go_roundw
      case rel => first | exact ⟨i + 1, acc + u, by go_num, by omega, rfl, hacc2, by omega, by omega, hb3, hb4⟩ | ((repeat apply Exists.intro); exact ⟨⟨i + 1, acc + u, by go_num, by omega, rfl, hacc2, by omega, by omega, hb3, hb4⟩, rfl⟩)
      case measure => simp [RowKit.intOf]; omega
    · have e : acc = V := by have := hacc.out; rw [List.drop_eq_nil_of_le (by omega)] at this; simpa [sumW] using this
      subst e
      go_wp2
      go_ret
      exact ⟨rfl, hb⟩
end Go.Proofs.YtdphhmigbbgjmaaDoor
