import Derived.Test.YtgjlpkocieffeaaLaw03A
import Derived.Test.YtgjlpkocieffeaaCharN
import Derived.Test.YtgjlpkocieffeaaCharP
import Derived.Test.YtgjlpkocieffeaaOffs
import Derived.Deep.QuietTactic
import Derived.BigQuiet
namespace Go.Proofs.Ytgjlpkocieffeaa
open Go.RowKit Go.Lib
theorem addr_at (g i : Nat) : (⟨g, 0, none⟩ : Addr).add i = ⟨g, i, none⟩ := by
  unfold Addr.add; split
  · rename_i h; simp_all
  · simp
theorem line_is (s : ByteArray) (o : Nat) (ho : o ≤ s.size) : ∃ x, getLine s.data.toList (nlAt s o + 1 : Nat) = some x ∧ x.length ≤ s.size := by
  obtain ⟨pre, h1, h2⟩ := lines_ahead s o ho
  obtain ⟨k, r, k1, k2, k3⟩ := head_lines (s.data.toList.drop (fromAt s o))
  rw [k1] at h2
  exact ⟨_, getLine_at _ _ _ _ _ h2 (by rw [h1]; simp), by have := k2; rw [List.length_drop, size_len] at this; rw [List.length_take]; omega⟩
theorem adv_at' (s : ByteArray) (o : Nat) (h : o ≤ s.size) (hs : s.size < 4611686018427387904) : advV 0 1 1 (s.extract 0 o) = .agg #[.int .i64 o, .int .i64 ((nlAt s o : Int) + 1), .int .i64 ((colN s o : Int) + 1)] := by
  rw [adv_at s o h hs, show ((nlAt s o + 1 : Nat) : Int) = (nlAt s o : Int) + 1 by omega, show ((colN s o + 1 : Nat) : Int) = (colN s o : Int) + 1 by omega]
/-- What a round of the law's loop holds in memory. -/
structure RF (os : List Nat) (L1 K1 : Int) (g b4 i o o2 : Nat) (w W : World) : Prop where
  b : Blk W b4 #[.int .i64 o, .int .i64 L1, .int .i64 K1] 24
  r1 : W.cell? ⟨g, i, none⟩ = some (.int .i64 o2)
  r2 : W.cell? ⟨g, i - 1, none⟩ = some (.int .i64 o)
  gl : g < W.heap.size
  bb : Below w.heap.size w W
  row : Hid (∀ j (hj : j < os.length), g < W.heap.size ∧ W.cell? ⟨g, j, none⟩ = some (.int .i64 os[j]))
theorem RF.below {os : List Nat} {L1 K1 : Int} {g b4 i o o2 : Nat} {w W W' : World} (h : RF os L1 K1 g b4 i o o2 w W) (k : Below W.heap.size W W') : RF os L1 K1 g b4 i o o2 w W' :=
  ⟨h.b.below' k, (k.cell (p := ⟨g, i, none⟩) h.gl).trans h.r1, (k.cell (p := ⟨g, i - 1, none⟩) h.gl).trans h.r2, Nat.lt_of_lt_of_le h.gl k.size, h.bb.trans (k.mono h.bb.size), fun j hj => ⟨Nat.lt_of_lt_of_le h.gl k.size, (k.cell (p := ⟨g, j, none⟩) h.gl).trans (h.row.out j hj).2⟩⟩
theorem RF.alloc {os : List Nat} {L1 K1 : Int} {g b4 i o o2 : Nat} {w W : World} (h : RF os L1 K1 g b4 i o o2 w W) (x : Obj) : RF os L1 K1 g b4 i o o2 w (W.alloc x) :=
  h.below ((Below.refl _ _).alloc (Nat.le_refl _) x)
theorem RF.drew {os : List Nat} {L1 K1 : Int} {g b4 i o o2 : Nat} {w W : World} (h : RF os L1 K1 g b4 i o o2 w W) : RF os L1 K1 g b4 i o o2 w W.drew := ⟨h.b, h.r1, h.r2, h.gl, h.bb.drew, h.row⟩
theorem RF.other {os : List Nat} {L1 K1 : Int} {g b4 i o o2 : Nat} {w W : World} (h : RF os L1 K1 g b4 i o o2 w W) (p : Addr) (x : Value) (h1 : b4 ≠ p.block) (h2 : g ≠ p.block) (h3 : w.heap.size ≤ p.block) : RF os L1 K1 g b4 i o o2 w (W.setCell p x) := by
  have hc : ∀ j, (W.setCell p x).cell? ⟨g, j, none⟩ = W.cell? ⟨g, j, none⟩ := fun j => World.cell?_of_block (Below.heap_setCell _ _ _ _ (by simpa using h2))
  have hg : g < (W.setCell p x).heap.size := by simpa [World.setCell] using h.gl
  exact ⟨h.b.other p x (Ne.symm h1), (hc i).trans h.r1, (hc (i - 1)).trans h.r2, hg, h.bb.setCell h3 x, fun j hj => ⟨hg, (hc j).trans (h.row.out j hj).2⟩⟩
theorem leafR {os : List Nat} {L1 K1 l k : Int} {g b4 b7 b i o o2 : Nat} {w W : World} {T : TypeId} {z0 z1 z2 : Value} (R : RF os L1 K1 g b4 i o o2 w W) (P : Blk W b7 #[.int .i64 o2, .int .i64 l, .int .i64 k] T) (Q : Blk W b #[z0, z1, z2] T) (h1 : b4 ≠ b) (h2 : g ≠ b) (h3 : b7 ≠ b) (h4 : w.heap.size ≤ b) :
    ∃ Wz bq, b = bq ∧ ((W.setCell ⟨b, 0, none⟩ (.int .i64 o2)).setCell ⟨b, 1, none⟩ (.int .i64 l)).setCell ⟨b, 2, none⟩ (.int .i64 k) = Wz ∧ RF os L1 K1 g b4 i o o2 w Wz ∧ Blk Wz b7 #[.int .i64 o2, .int .i64 l, .int .i64 k] T ∧ Blk Wz bq #[.int .i64 o2, .int .i64 l, .int .i64 k] T :=
  ⟨_, _, rfl, rfl, ((R.other ⟨b, 0, none⟩ _ h1 h2 h4).other ⟨b, 1, none⟩ _ h1 h2 h4).other ⟨b, 2, none⟩ _ h1 h2 h4, ((P.other ⟨b, 0, none⟩ _ (Ne.symm h3)).other ⟨b, 1, none⟩ _ (Ne.symm h3)).other ⟨b, 2, none⟩ _ (Ne.symm h3), ((Q.set 0 _).set 1 _).set 2 _⟩
theorem RF.store {os : List Nat} {L1 K1 : Int} {g b4 i o o2 : Nat} {w W : World} (R : RF os L1 K1 g b4 i o o2 w W) (h : g < b4) (h2 : w.heap.size ≤ b4) (x y z : Value) :
    Blk (((W.setCell ⟨b4, 0, none⟩ x).setCell ⟨b4, 1, none⟩ y).setCell ⟨b4, 2, none⟩ z) b4 #[x, y, z] 24 ∧ Hid (∀ j (hj : j < os.length), g < (((W.setCell ⟨b4, 0, none⟩ x).setCell ⟨b4, 1, none⟩ y).setCell ⟨b4, 2, none⟩ z).heap.size ∧ (((W.setCell ⟨b4, 0, none⟩ x).setCell ⟨b4, 1, none⟩ y).setCell ⟨b4, 2, none⟩ z).cell? ⟨g, j, none⟩ = some (.int .i64 os[j])) ∧ Below w.heap.size w (((W.setCell ⟨b4, 0, none⟩ x).setCell ⟨b4, 1, none⟩ y).setCell ⟨b4, 2, none⟩ z) := by
  refine ⟨((R.b.set 0 x).set 1 y).set 2 z, fun j hj => ⟨by simpa [World.setCell] using R.gl, ?_⟩, ((R.bb.setCell h2 x).setCell h2 y).setCell h2 z⟩
  have hne : g ≠ b4 := by omega
  rw [World.cell?_of_block (Below.heap_setCell _ _ _ _ (by simpa using hne)), World.cell?_of_block (Below.heap_setCell _ _ _ _ (by simpa using hne)), World.cell?_of_block (Below.heap_setCell _ _ _ _ (by simpa using hne))]
  exact (R.row.out j hj).2
theorem leafN {os : List Nat} {L1 K1 l k : Int} {g b4 b7 i o o2 : Nat} {w W : World} {T : TypeId} (R : RF os L1 K1 g b4 i o o2 w W) (P : Blk W b7 #[.int .i64 o2, .int .i64 l, .int .i64 k] T) :
    ∃ Wz bq, W.heap.size = bq ∧ W.alloc (.cells #[.int .i64 o2, .int .i64 l, .int .i64 k] T) = Wz ∧ RF os L1 K1 g b4 i o o2 w Wz ∧ Blk Wz b7 #[.int .i64 o2, .int .i64 l, .int .i64 k] T ∧ Blk Wz bq #[.int .i64 o2, .int .i64 l, .int .i64 k] T :=
  ⟨_, _, rfl, rfl, R.alloc _, P.alloc _, Blk.new _ _ _⟩
set_option maxHeartbeats 40000000 in
set_option maxRecDepth 100000 in
theorem law_Rises (s : ByteArray) (w : World) :
    Calls Try.prog 7 #[.string s] w fun e w' => e = .returned (.bool true) ∧ Below w.heap.size w w' := by
  by_cases hs : (268435455 : Int) < s.size
  · go_enter Try.func7, Try.ntmps7
    go_wp2
    go_ret
    exact ⟨rfl, Below.refl _ _⟩
  by_cases hs2 : (4000 : Int) < s.size
  · go_enter Try.func7, Try.ntmps7
    go_wp2
    go_ret
    exact ⟨rfl, Below.refl _ _⟩
  have hOf : ∀ (o : Nat) W, o ≤ s.size → Calls Try.prog 8 #[.string s, .int .i64 o] W fun e w' => e = .returned (.tuple #[.agg #[.int .i64 o, .int .i64 ((nlAt s o : Int) + 1), .int .i64 ((colN s o : Int) + 1)], .int .i64 0]) ∧ Below W.heap.size W w' := fun o W h => by
    have := place_Of s o W (by omega) h; rwa [adv_at' s o h (by omega)] at this
  replace hOf := Lib.hid hOf
  have hOf0 : ∀ W, Calls Try.prog 8 #[.string s, .int .i64 0] W fun e w' => e = .returned (.tuple #[.agg #[.int .i64 0, .int .i64 1, .int .i64 1], .int .i64 0]) ∧ Below W.heap.size W w' := fun W => by
    have h0 : colN s 0 = 0 := by unfold colN; simp [cnt_nil]
    have := hOf.out 0 W (Nat.zero_le _); rw [h0] at this; exact this
  replace hOf0 := Lib.hid hOf0
  go_enter Try.func7, Try.ntmps7
  go_wp2_with fail
  refine (char_Places s _ (by omega)).mono ?_
  rintro e w1 ⟨v, rfl, hown, h1⟩
  obtain ⟨os, hos⟩ : ∃ os, os = offs s.data.toList 0 := ⟨_, rfl⟩
  have hlen : cnt s.data.toList = os.length := by rw [hos, offs_len]
  have hall : ∀ i (hi : i < os.length), os[i] < s.size ∧ CB s os[i] ∧ ∀ (hj : i + 1 < os.length), os[i + 1] = os[i] + (Utf8.decode s os[i]).2 := by rw [hos]; exact offs_all s
  have hfirst : ∀ (h : 0 < os.length), os[0] = 0 := by rw [hos]; exact offs_first s
  have hlen4 : os.length ≤ s.size := by rw [← hlen]; have := cnt_le s.data.toList; rw [size_len] at this; exact this
  rw [hlen, ← hos] at hown
  clear hlen hos
  obtain ⟨ra, rc, rfl⟩ := ownsRow_shape hown
  have hcells : ∃ g, ∀ i (hi : i < os.length), ra = some ⟨g, 0, none⟩ ∧ w.heap.size + 1 ≤ g ∧ g < w1.heap.size ∧ w1.cell? ⟨g, i, none⟩ = some (.int .i64 os[i]) := by
    rcases hown.2 with ⟨he, h0⟩ | ⟨g, cap, cur, he, hB, hg, hle, hm, hsz, ht⟩
    · exact ⟨0, fun i hi => by omega⟩
    · injection he with e1 e2 e3
      subst e1
      refine ⟨g, fun i hi => ⟨rfl, hB, (Array.getElem?_eq_some_iff.1 hg).1, ?_⟩⟩
      have := World.ownsRow.cells hown (g := g) rfl i (.int .i64 os[i]) (by simp [iV, hi])
      rwa [addr_at] at this
  obtain ⟨g, hcells⟩ := hcells
  replace hall := Lib.hid hall; replace hfirst := Lib.hid hfirst; replace hcells := Lib.hid hcells
  go_wp2_with fail
  refine (hOf0.out _).mono ?_
  rintro e w2 ⟨rfl, h2⟩
  have hz1 := h1.size; have hz2 := h2.size
  have bb2 : Below w.heap.size w w2 := h1.trans (h2.mono hz1)
  go_wp2_with fail
  have p2 := Blk.new w2 #[.int .i64 0, .int .i64 1, .int .i64 1] 24
  have bb3 := bb2.alloc (by omega) (.cells #[.int .i64 0, .int .i64 1, .int .i64 1] 24)
  have hrow : ∀ i (hi : i < os.length), g < (w2.alloc (.cells #[.int .i64 0, .int .i64 1, .int .i64 1] 24)).heap.size ∧ (w2.alloc (.cells #[.int .i64 0, .int .i64 1, .int .i64 1] 24)).cell? ⟨g, i, none⟩ = some (.int .i64 os[i]) := fun i hi => by
    obtain ⟨_, _, q1, q2⟩ := hcells.out i hi
    refine ⟨by simp; omega, ?_⟩
    rw [World.cell?_alloc_past _ _ _ (by show g < _; omega)]
    exact (h2.cell (p := ⟨g, i, none⟩) q1).trans q2
  have hra : ∀ i, i < os.length → ra = some ⟨g, 0, none⟩ ∧ w.heap.size + 1 ≤ g ∧ g < w1.heap.size := fun i hi => by obtain ⟨q0, q1, q2, _⟩ := hcells.out i hi; exact ⟨q0, q1, q2⟩
  obtain ⟨b4, hb4⟩ : ∃ b4, b4 = w2.heap.size := ⟨_, rfl⟩
  obtain ⟨W, hW⟩ : ∃ W, w2.alloc (.cells #[.int .i64 0, .int .i64 1, .int .i64 1] 24) = W := ⟨_, rfl⟩
  rw [hW] at bb3 p2 hrow ⊢
  rw [← hb4] at p2 ⊢
  have hgb : ∀ i, i < os.length → g < b4 := fun i hi => by have := (hra i hi).2.2; omega
  replace hra := Lib.hid hra; replace hrow := Lib.hid hrow; replace hgb := Lib.hid hgb
  have hb40 : w.heap.size ≤ b4 := by omega
  clear hW hb4 hown h1 h2 hz1 hz2 bb2
  have k0 := p2.cell 0; have k1 := p2.cell 1; have k2 := p2.cell 2
  simp at k0 k1 k2
  go_region_held3 (fun w' => w'.cell? ⟨b4, 0, none⟩ = some (.int .i64 0) ∧ w'.cell? ⟨b4, 1, none⟩ = some (.int .i64 1) ∧ w'.cell? ⟨b4, 2, none⟩ = some (.int .i64 1)) (first | exact ⟨k0, k1, k2⟩ | go_keep)
    (first | (go_at_call 16; refine (place_Start _).mono ?_; rintro e wn ⟨rfl, hq⟩; have p3 := (by first | exact p2.below' hq | exact p2.drew.below' hq); have bb4 := (by first | exact bb3.trans (hq.mono bb3.size) | exact bb3.drew.trans (hq.mono bb3.size)); have hrow2 : Hid (∀ i (hi : i < os.length), g < wn.heap.size ∧ wn.cell? ⟨g, i, none⟩ = some (.int .i64 os[i])) := Lib.hid (fun i hi => ⟨Nat.lt_of_lt_of_le (hrow.out i hi).1 hq.size, (hq.cell (p := ⟨g, i, none⟩) (hrow.out i hi).1).trans (hrow.out i hi).2⟩); replace k0 := p3.cell 0; replace k1 := p3.cell 1; replace k2 := p3.cell 2; simp at k0 k1 k2; unfold startV))
  clear bb3 p2 hrow k0 k1 k2
  have hcz : colN s 0 = 0 := by unfold colN; simp [cnt_nil]
  have hrel0 : ∃ o : Nat, o ≤ s.size ∧ (∀ h : 0 < os.length, os[0] = o) ∧ Blk wn b4 #[.int .i64 o, .int .i64 ((nlAt s o : Int) + 1), .int .i64 ((colN s o : Int) + 1)] 24 :=
    ⟨0, by omega, fun h => hfirst.out h, by rw [hcz]; exact p3⟩
  clear p3 hcz
  go_wp2
  go_loopw [6] (fun iv W => ∃ i : Nat, iv = .int .i64 i ∧ 1 ≤ i ∧ i ≤ os.length + 1 ∧ (∃ o : Nat, o ≤ s.size ∧ (∀ h : i - 1 < os.length, os[i - 1] = o) ∧ Blk W b4 #[.int .i64 o, .int .i64 ((nlAt s o : Int) + 1), .int .i64 ((colN s o : Int) + 1)] 24) ∧ Hid (∀ i (hi : i < os.length), g < W.heap.size ∧ W.cell? ⟨g, i, none⟩ = some (.int .i64 os[i])) ∧ Below w.heap.size w W) (fun iv _ => os.length + 1 - (RowKit.intOf iv).toNat)
  case atStart => exact ⟨1, rfl, by omega, by omega, hrel0, hrow2, bb4⟩
  case round =>
    obtain ⟨i, rfl, hi1, hi2, ⟨o, ho, hoi, hB⟩, hrow, hbb⟩ := hrel
    clear hrel0 hrow2 bb4
    by_cases hlt : i < os.length
    · have hoi := hoi (by omega)
      have hA := hall.out (i - 1) (by omega)
      have hA2 := hA.2.2 (by omega)
      have hC := hall.out i hlt
      obtain ⟨o2, ho2⟩ : ∃ o2, o2 = os[i] := ⟨_, rfl⟩
      rw [hoi] at hA hA2
      have e1 : o2 = o + (Utf8.decode s o).2 := by rw [ho2]; have := hA2; simpa [show i - 1 + 1 = i by omega] using this
      rw [← ho2] at hC
      have hst := CB_step s o hA.2.1 hA.1
      rw [← e1] at hst
      have hr1 := (hrow.out i hlt).2
      have hr2 := (hrow.out (i - 1) (by omega)).2
      rw [← ho2] at hr1
      rw [hoi] at hr2
      have hg1 := (hrow.out i hlt).1
      have hra2 := (hra.out i hlt).1
      have hgb2 := hgb.out i hlt
      subst hra2
      have hos : o < s.size := hA.1
      have ho2s : o2 < s.size := hC.1
      have hCB := Lib.hid hC.2.1
      replace hst := Lib.hid hst
      replace hoi := Lib.hid hoi; replace ho2 := Lib.hid ho2
      clear hA hA2 hC e1
      obtain ⟨x, hx1, hx2⟩ := line_is s o2 (by omega)
      have hnx2 := dec_pos s o2
      have hN1 := nlAt_le s o; have hK1 := colN_le s o
      obtain ⟨L1, hL1⟩ : ∃ L1 : Int, L1 = (nlAt s o : Int) + 1 := ⟨_, rfl⟩
      obtain ⟨K1, hK1'⟩ : ∃ K1 : Int, K1 = (colN s o : Int) + 1 := ⟨_, rfl⟩
      rw [← hL1, ← hK1'] at hB
      have hL1b : 1 ≤ L1 ∧ L1 ≤ 5000 := by omega
      have hK1b : 1 ≤ K1 ∧ K1 ≤ 5000 := by omega
      have hcase : ∃ L2 K2 : Int, L2 = (nlAt s o2 : Int) + 1 ∧ K2 = (colN s o2 : Int) + 1 ∧ ((byteAt s o = 10 ∧ L2 = L1 + 1 ∧ K2 = 1) ∨ (byteAt s o ≠ 10 ∧ L2 = L1 ∧ K2 = K1 + 1)) := by
        refine ⟨_, _, rfl, rfl, ?_⟩
        by_cases h10 : byteAt s o = 10
        · obtain ⟨_, q1, q2⟩ := hst.out.2.1 h10
          exact .inl ⟨h10, by rw [hL1, q1]; omega, by rw [q2]; rfl⟩
        · obtain ⟨q1, q2⟩ := hst.out.2.2 h10
          exact .inr ⟨h10, by rw [hL1, q1], by rw [hK1', q2]; omega⟩
      obtain ⟨L2, K2, hL2, hK2, hcase⟩ := hcase
      have R : RF os L1 K1 g b4 i o o2 w wr := ⟨hB, hr1, hr2, hg1, hbb, hrow⟩
      have hOf2 := hOf.out o2 wr (by omega)
      rw [← hL2, ← hK2] at hOf2
      have hAdv : ∀ W, Calls Try.prog 12 #[.agg #[.int .i64 0, .int .i64 1, .int .i64 1], .string (s.extract 0 o2)] W fun e w' => e = .returned (.agg #[.int .i64 o2, .int .i64 L2, .int .i64 K2]) ∧ Below W.heap.size W w' := fun W => by
        have := place_Advance 0 1 1 (s.extract 0 o2) W (by simp; omega); rwa [adv_at' s o2 (by omega) (by omega), ← hL2, ← hK2] at this
      have hLn : ∀ W, Calls Try.prog 10 #[.string s, .int .i64 L2] W fun e w' => e = .returned (.tuple #[.string ⟨x.toArray⟩, .bool true]) ∧ Below W.heap.size W w' := fun W => by
        have := place_Line s L2 W (by omega) (by unfold wrap64; omega)
        rwa [show lineV s.data.toList L2 = .tuple #[.string ⟨x.toArray⟩, .bool true] from (by unfold lineV; rw [show L2 = (nlAt s o2 + 1 : Nat) by omega, hx1])] at this
      have hCnt : byteAt s o2 ≠ 10 → ∃ c : Nat, K2 ≤ c ∧ c ≤ 5000 ∧ ∀ W, Calls Try.prog 18 #[.string ⟨x.toArray⟩] W fun e w' => e = .returned (.int .i64 c) ∧ Below W.heap.size W w' := fun h => by
        obtain ⟨y, y1, y2, y3⟩ := line_at s o2 hCB.out ho2s h
        rw [hx1] at y1
        cases y1
        exact ⟨cnt x, by omega, by have := cnt_le x; omega, fun W => char_Count ⟨x.toArray⟩ W (by show x.toArray.size < _; rw [List.size_toArray]; omega)⟩
      replace hx1 := Lib.hid hx1; replace hL1 := Lib.hid hL1; replace hK1' := Lib.hid hK1'; replace hL2 := Lib.hid hL2; replace hK2 := Lib.hid hK2
      replace hOf2 := Lib.hid hOf2; replace hAdv := Lib.hid hAdv; replace hLn := Lib.hid hLn; replace hCnt := Lib.hid hCnt
      have hb0 := byteAt_lt s o; have hb02 := byteAt_lt s o2
      obtain ⟨hL1a, hL1b⟩ := hL1b; obtain ⟨hK1a, hK1b⟩ := hK1b
      clear hB hg1 hbb hrow hN1 hK1
      rcases hcase with ⟨h10, e1, e2⟩ | ⟨h10, e1, e2⟩ <;> (replace e1 := e1.symm; subst e1; subst e2)
      · have hfeed : ((byteAt s o : Int) == 10) = true := by simp; omega
        clear h10
        go_wp2_with fail
        refine hOf2.out.mono ?_
        rintro e w5 ⟨rfl, h5⟩
        replace R := R.below h5
        have P := Blk.new w5 #[.int .i64 o2, .int .i64 (L1 + 1), .int .i64 1] 24
        replace R := R.alloc (.cells #[.int .i64 o2, .int .i64 (L1 + 1), .int .i64 1] 24)
        clear hr1 hr2 h5
        have hz5 : w5.heap.size < (w5.alloc (.cells #[.int .i64 o2, .int .i64 (L1 + 1), .int .i64 1] 24)).heap.size := by simp
        obtain ⟨b7, hb7⟩ : ∃ b7, b7 = w5.heap.size := ⟨_, rfl⟩
        go_wp2_with fail
        obtain ⟨W6, hW6⟩ : ∃ W6, w5.alloc (.cells #[.int .i64 o2, .int .i64 (L1 + 1), .int .i64 1] 24) = W6 := ⟨_, rfl⟩
        rw [hW6] at P R hz5 ⊢
        rw [← hb7] at P hz5 ⊢
        clear hW6 hb7
        have r1 := R.r1; have r2 := R.r2; have q0 := P.cell 0; have q1 := P.cell 1; have q2 := P.cell 2; have l0 := R.b.cell 0; have l1 := R.b.cell 1; have l2 := R.b.cell 2
        simp at q0 q1 q2 l0 l1 l2
        go_quiet (fail)
        replace R : RF os L1 K1 g b4 i o o2 w (W6.drewN nq) := ⟨R.b, R.r1, R.r2, R.gl, R.bb.trans ⟨rfl, rfl, rfl, Nat.le_refl _, fun _ _ => rfl⟩, R.row⟩
        replace P : Blk (W6.drewN nq) b7 #[.int .i64 o2, .int .i64 (L1 + 1), .int .i64 1] 24 := P
        obtain ⟨W7, hW7⟩ : ∃ W7, W6.drewN nq = W7 := ⟨_, rfl⟩
        rw [hW7] at P R ⊢
        clear hW7
        replace r1 := R.r1; replace r2 := R.r2; replace q0 := P.cell 0; replace q1 := P.cell 1; replace q2 := P.cell 2; replace l0 := R.b.cell 0; replace l1 := R.b.cell 1; replace l2 := R.b.cell 2
        simp at q0 q1 q2 l0 l1 l2
        go_wp2_with fail
        refine (hLn.out _).mono ?_
        rintro e w8 ⟨rfl, hq⟩
        replace R := (by first | exact R.below hq | exact R.drew.below hq); replace P := (by first | exact P.below' hq | exact P.drew.below' hq); replace r1 := R.r1; replace r2 := R.r2; replace q0 := P.cell 0; replace q1 := P.cell 1; replace q2 := P.cell 2; replace l0 := R.b.cell 0; replace l1 := R.b.cell 1; replace l2 := R.b.cell 2; simp at q0 q1 q2 l0 l1 l2
        clear hq
        go_wp2_with fail
        refine (char_Next s o2 _ (by omega) (by omega)).mono ?_
        unfold nextV
        rintro e w9 ⟨rfl, hq⟩
        replace R := (by first | exact R.below hq | exact R.drew.below hq); replace P := (by first | exact P.below' hq | exact P.drew.below' hq); replace r1 := R.r1; replace r2 := R.r2; replace q0 := P.cell 0; replace q1 := P.cell 1; replace q2 := P.cell 2; replace l0 := R.b.cell 0; replace l1 := R.b.cell 1; replace l2 := R.b.cell 2; simp at q0 q1 q2 l0 l1 l2
        clear hq
        have hsl1 : (0 : Int) ≤ (o2 : Int) := by omega
        have hsl2 : (o2 : Int) ≤ s.size := by omega
        go_wp2_with fail
        have kal : ∀ (W : World) (x : Obj), W.cell? ⟨g, i, none⟩ = some (.int .i64 o2) → g < W.heap.size → (W.alloc x).cell? ⟨g, i, none⟩ = some (.int .i64 o2) := fun W x h1 h2 => by rw [World.cell?_alloc_past _ _ _ h2]; exact h1
        have gl := R.gl; have gz := R.bb.size; have gb := R.b.lt; have gp := P.lt
        clear r2 q0 q1 q2 l0 l1 l2
        have kset : ∀ (W : World) (b : Nat) (x y z : Value), W.cell? ⟨g, i, none⟩ = some (.int .i64 o2) → g ≠ b → (((W.setCell ⟨b, 0, none⟩ x).setCell ⟨b, 1, none⟩ y).setCell ⟨b, 2, none⟩ z).cell? ⟨g, i, none⟩ = some (.int .i64 o2) := fun W b x y z h1 h2 => by
          rw [World.cell?_of_block (Below.heap_setCell _ _ _ _ (by simpa using h2)), World.cell?_of_block (Below.heap_setCell _ _ _ _ (by simpa using h2)), World.cell?_of_block (Below.heap_setCell _ _ _ _ (by simpa using h2))]; exact h1
        replace kset := Lib.hid kset; replace kal := Lib.hid kal
        go_region_held3 (fun w' => w'.cell? ⟨g, i, none⟩ = some (.int .i64 o2)) (first | exact r1 | exact kal.out _ _ r1 gl | exact kal.out _ _ r1 (by simpa using gl) | exact kset.out _ _ _ _ _ r1 (by omega))
          (first | (go_at_call 16; refine (place_Start _).mono ?_; rintro e wa ⟨rfl, hq⟩; replace R := (by with_reducible first | exact R.below hq | exact R.drew.below hq | exact (R.alloc _).below hq | exact (R.drew.alloc _).below hq | exact (R.alloc _).drew.below hq); replace P := (by with_reducible first | exact P.below' hq | exact P.drew.below' hq | exact (P.alloc _).below' hq | exact (P.drew.alloc _).below' hq | exact (P.alloc _).drew.below' hq); replace r1 := R.r1; have gl := R.gl; have gz := R.bb.size; have gb := R.b.lt; have gp := P.lt; (first | (replace Q := Q.below' hq; replace z0 := Q.cell 0; replace z1 := Q.cell 1; replace z2 := Q.cell 2; replace zf0 := Q.frozen 0; replace zf1 := Q.frozen 1; replace zf2 := Q.frozen 2; simp at z0 z1 z2) | (have Q := (by with_reducible first | exact (Blk.new _ #[.int .i64 0, .int .i64 0, .int .i64 0] 24).below' hq | exact (Blk.new _ #[.int .i64 0, .int .i64 0, .int .i64 0] 24).drew.below' hq); have z0 := Q.cell 0; have z1 := Q.cell 1; have z2 := Q.cell 2; have zf0 := Q.frozen 0; have zf1 := Q.frozen 1; have zf2 := Q.frozen 2; simp at z0 z1 z2) | skip); clear hq; unfold startV) | (go_at_call 12; refine (hAdv.out _).mono ?_; rintro e wa ⟨rfl, hq⟩; replace R := (by with_reducible first | exact R.below hq | exact R.drew.below hq | exact (R.alloc _).below hq | exact (R.drew.alloc _).below hq | exact (R.alloc _).drew.below hq); replace P := (by with_reducible first | exact P.below' hq | exact P.drew.below' hq | exact (P.alloc _).below' hq | exact (P.drew.alloc _).below' hq | exact (P.alloc _).drew.below' hq); replace r1 := R.r1; have gl := R.gl; have gz := R.bb.size; have gb := R.b.lt; have gp := P.lt; (first | (replace Q := Q.below' hq; replace z0 := Q.cell 0; replace z1 := Q.cell 1; replace z2 := Q.cell 2; replace zf0 := Q.frozen 0; replace zf1 := Q.frozen 1; replace zf2 := Q.frozen 2; simp at z0 z1 z2) | (have Q := (by with_reducible first | exact (Blk.new _ #[.int .i64 0, .int .i64 0, .int .i64 0] 24).below' hq | exact (Blk.new _ #[.int .i64 0, .int .i64 0, .int .i64 0] 24).drew.below' hq); have z0 := Q.cell 0; have z1 := Q.cell 1; have z2 := Q.cell 2; have zf0 := Q.frozen 0; have zf1 := Q.frozen 1; have zf2 := Q.frozen 2; simp at z0 z1 z2) | skip); clear hq))
        all_goals
          (first | (obtain ⟨Wz, bq, hbq, hWz, R, P, Q⟩ := leafR R P Q (by omega) (by omega) (by omega) (by omega); rw [hWz, hbq]; clear hWz hbq) | (obtain ⟨Wz, bq, hbq, hWz, R, P, Q⟩ := leafR (R.alloc _) (P.alloc _) (Blk.new _ #[.int .i64 0, .int .i64 0, .int .i64 0] 24) (by omega) (by omega) (by omega) (by omega); rw [hWz, hbq]; clear hWz hbq) | (obtain ⟨Wz, bq, hbq, hWz, R, P, Q⟩ := leafN (T := 24) R P; rw [hWz, hbq]; clear hWz hbq))
          (replace r1 := R.r1; have q0 := P.cell 0; have q1 := P.cell 1; have q2 := P.cell 2; have z0 := Q.cell 0; have z1 := Q.cell 1; have z2 := Q.cell 2; simp at q0 q1 q2 z0 z1 z2)
          go_wp2_with fail
          have hn1 : ¬ (((Utf8.decode s o2).2 : Nat) : Int) < 1 := by omega
          have hn2 : decide ((((Utf8.decode s o2).2 : Nat) : Int) < 1) = false := by simp; omega
          by_cases h102 : byteAt s o2 = 10
          · have hf2 : ((byteAt s o2 : Int) != 10) = false := by simp; omega
            replace h102 := Lib.hid h102
            go_quiet (fail)
            replace R : RF os L1 K1 g b4 i o o2 w (Wz.drewN nq) := ⟨R.b, R.r1, R.r2, R.gl, R.bb.trans ⟨rfl, rfl, rfl, Nat.le_refl _, fun _ _ => rfl⟩, R.row⟩
            replace P : Blk (Wz.drewN nq) b7 #[.int .i64 o2, .int .i64 (L1 + 1), .int .i64 1] 24 := P
            obtain ⟨W7, hW7⟩ : ∃ W7, Wz.drewN nq = W7 := ⟨_, rfl⟩
            rw [hW7] at P R ⊢
            clear hW7
            replace r1 := R.r1; replace q0 := P.cell 0; replace q1 := P.cell 1; replace q2 := P.cell 2
            simp at q0 q1 q2
            have hwi : IntKind.i64.wrap ((i : Int) + 1) = (i : Int) + 1 := IntWalk.i64_in _ (by omega)
            have l0 := R.b.cell 0; have l1 := R.b.cell 1; have l2 := R.b.cell 2; have lf0 := R.b.frozen 0; have lf1 := R.b.frozen 1; have lf2 := R.b.frozen 2
            simp at l0 l1 l2
            have hS := fun x y z => R.store hgb2 hb40 x y z
            replace hS := Lib.hid hS
            go_wp2
            go_roundw
            case rel =>
              obtain ⟨s1, s2, s3⟩ := hS.out (.int .i64 o2) (.int .i64 (L1 + 1)) (.int .i64 1)
              exact ⟨i + 1, by simp, by omega, by omega, ⟨o2, by omega, fun h => by have := ho2.out; simp only [Nat.add_sub_cancel]; exact this.symm, by rw [← hL2.out, ← hK2.out]; exact s1⟩, s2, s3⟩
            case measure => simp [RowKit.intOf]; omega
          · obtain ⟨c, hc1, hc2, hc⟩ := hCnt.out h102
            have hf2 : ((byteAt s o2 : Int) != 10) = true := by simp; omega
            have hf3 : ¬ (byteAt s o2 : Int) = 10 := by omega
            have hn3 : ¬ (c : Int) < 1 := by omega
            have hn4 : decide ((c : Int) < 1) = false := by simp; omega
            go_region_held3 (fun w' => w'.cell? ⟨g, i, none⟩ = some (.int .i64 o2) ∧ w'.cell? ⟨b7, 0, none⟩ = some (.int .i64 o2) ∧ w'.cell? ⟨b7, 1, none⟩ = some (.int .i64 (L1 + 1)) ∧ w'.cell? ⟨b7, 2, none⟩ = some (.int .i64 1) ∧ w'.cell? ⟨bq, 0, none⟩ = some (.int .i64 o2) ∧ w'.cell? ⟨bq, 1, none⟩ = some (.int .i64 (L1 + 1)) ∧ w'.cell? ⟨bq, 2, none⟩ = some (.int .i64 1)) (first | exact ⟨r1, q0, q1, q2, z0, z1, z2⟩ | go_keep)
              (first | (go_at_call 18; refine (hc _).mono ?_; rintro e wa ⟨rfl, hq⟩; replace R := (by with_reducible first | exact R.below hq | exact R.drew.below hq); replace P := (by with_reducible first | exact P.below' hq | exact P.drew.below' hq); replace Q := (by with_reducible first | exact Q.below' hq | exact Q.drew.below' hq); replace r1 := R.r1; replace q0 := P.cell 0; replace q1 := P.cell 1; replace q2 := P.cell 2; replace z0 := Q.cell 0; replace z1 := Q.cell 1; replace z2 := Q.cell 2; simp at q0 q1 q2 z0 z1 z2; clear hq))
            all_goals
              clear z0 z1 z2 Q hc hn3 hn4
              have hwi : IntKind.i64.wrap ((i : Int) + 1) = (i : Int) + 1 := IntWalk.i64_in _ (by omega)
              have l0 := R.b.cell 0; have l1 := R.b.cell 1; have l2 := R.b.cell 2; have lf0 := R.b.frozen 0; have lf1 := R.b.frozen 1; have lf2 := R.b.frozen 2
              simp at l0 l1 l2
              have hS := fun x y z => R.store hgb2 hb40 x y z
              replace hS := Lib.hid hS
              go_wp2
              go_roundw
              case rel =>
                obtain ⟨s1, s2, s3⟩ := hS.out (.int .i64 o2) (.int .i64 (L1 + 1)) (.int .i64 1)
                exact ⟨i + 1, by simp, by omega, by omega, ⟨o2, by omega, fun h => by have := ho2.out; simp only [Nat.add_sub_cancel]; exact this.symm, by rw [← hL2.out, ← hK2.out]; exact s1⟩, s2, s3⟩
              case measure => simp [RowKit.intOf]; omega
      · have hfeed : ((byteAt s o : Int) == 10) = false := by simp; omega
        clear h10
        have hwK : IntKind.i64.wrap (K1 + 1) = K1 + 1 := IntWalk.i64_in _ (by omega)
        go_wp2_with fail
        refine hOf2.out.mono ?_
        rintro e w5 ⟨rfl, h5⟩
        replace R := R.below h5
        have P := Blk.new w5 #[.int .i64 o2, .int .i64 L1, .int .i64 (K1 + 1)] 24
        replace R := R.alloc (.cells #[.int .i64 o2, .int .i64 L1, .int .i64 (K1 + 1)] 24)
        clear hr1 hr2 h5
        have hz5 : w5.heap.size < (w5.alloc (.cells #[.int .i64 o2, .int .i64 L1, .int .i64 (K1 + 1)] 24)).heap.size := by simp
        obtain ⟨b7, hb7⟩ : ∃ b7, b7 = w5.heap.size := ⟨_, rfl⟩
        go_wp2_with fail
        obtain ⟨W6, hW6⟩ : ∃ W6, w5.alloc (.cells #[.int .i64 o2, .int .i64 L1, .int .i64 (K1 + 1)] 24) = W6 := ⟨_, rfl⟩
        rw [hW6] at P R hz5 ⊢
        rw [← hb7] at P hz5 ⊢
        clear hW6 hb7
        have r1 := R.r1; have r2 := R.r2; have q0 := P.cell 0; have q1 := P.cell 1; have q2 := P.cell 2; have l0 := R.b.cell 0; have l1 := R.b.cell 1; have l2 := R.b.cell 2
        simp at q0 q1 q2 l0 l1 l2
        go_quiet (fail)
        replace R : RF os L1 K1 g b4 i o o2 w (W6.drewN nq) := ⟨R.b, R.r1, R.r2, R.gl, R.bb.trans ⟨rfl, rfl, rfl, Nat.le_refl _, fun _ _ => rfl⟩, R.row⟩
        replace P : Blk (W6.drewN nq) b7 #[.int .i64 o2, .int .i64 L1, .int .i64 (K1 + 1)] 24 := P
        obtain ⟨W7, hW7⟩ : ∃ W7, W6.drewN nq = W7 := ⟨_, rfl⟩
        rw [hW7] at P R ⊢
        clear hW7
        replace r1 := R.r1; replace r2 := R.r2; replace q0 := P.cell 0; replace q1 := P.cell 1; replace q2 := P.cell 2; replace l0 := R.b.cell 0; replace l1 := R.b.cell 1; replace l2 := R.b.cell 2
        simp at q0 q1 q2 l0 l1 l2
        go_wp2_with fail
        refine (hLn.out _).mono ?_
        rintro e w8 ⟨rfl, hq⟩
        replace R := (by first | exact R.below hq | exact R.drew.below hq); replace P := (by first | exact P.below' hq | exact P.drew.below' hq); replace r1 := R.r1; replace r2 := R.r2; replace q0 := P.cell 0; replace q1 := P.cell 1; replace q2 := P.cell 2; replace l0 := R.b.cell 0; replace l1 := R.b.cell 1; replace l2 := R.b.cell 2; simp at q0 q1 q2 l0 l1 l2
        clear hq
        go_wp2_with fail
        refine (char_Next s o2 _ (by omega) (by omega)).mono ?_
        unfold nextV
        rintro e w9 ⟨rfl, hq⟩
        replace R := (by first | exact R.below hq | exact R.drew.below hq); replace P := (by first | exact P.below' hq | exact P.drew.below' hq); replace r1 := R.r1; replace r2 := R.r2; replace q0 := P.cell 0; replace q1 := P.cell 1; replace q2 := P.cell 2; replace l0 := R.b.cell 0; replace l1 := R.b.cell 1; replace l2 := R.b.cell 2; simp at q0 q1 q2 l0 l1 l2
        clear hq
        have hsl1 : (0 : Int) ≤ (o2 : Int) := by omega
        have hsl2 : (o2 : Int) ≤ s.size := by omega
        go_wp2_with fail
        have kal : ∀ (W : World) (x : Obj), W.cell? ⟨g, i, none⟩ = some (.int .i64 o2) → g < W.heap.size → (W.alloc x).cell? ⟨g, i, none⟩ = some (.int .i64 o2) := fun W x h1 h2 => by rw [World.cell?_alloc_past _ _ _ h2]; exact h1
        have gl := R.gl; have gz := R.bb.size; have gb := R.b.lt; have gp := P.lt
        clear r2 q0 q1 q2 l0 l1 l2
        have kset : ∀ (W : World) (b : Nat) (x y z : Value), W.cell? ⟨g, i, none⟩ = some (.int .i64 o2) → g ≠ b → (((W.setCell ⟨b, 0, none⟩ x).setCell ⟨b, 1, none⟩ y).setCell ⟨b, 2, none⟩ z).cell? ⟨g, i, none⟩ = some (.int .i64 o2) := fun W b x y z h1 h2 => by
          rw [World.cell?_of_block (Below.heap_setCell _ _ _ _ (by simpa using h2)), World.cell?_of_block (Below.heap_setCell _ _ _ _ (by simpa using h2)), World.cell?_of_block (Below.heap_setCell _ _ _ _ (by simpa using h2))]; exact h1
        replace kset := Lib.hid kset; replace kal := Lib.hid kal
        go_region_held3 (fun w' => w'.cell? ⟨g, i, none⟩ = some (.int .i64 o2)) (first | exact r1 | exact kal.out _ _ r1 gl | exact kal.out _ _ r1 (by simpa using gl) | exact kset.out _ _ _ _ _ r1 (by omega))
          (first | (go_at_call 16; refine (place_Start _).mono ?_; rintro e wa ⟨rfl, hq⟩; replace R := (by with_reducible first | exact R.below hq | exact R.drew.below hq | exact (R.alloc _).below hq | exact (R.drew.alloc _).below hq | exact (R.alloc _).drew.below hq); replace P := (by with_reducible first | exact P.below' hq | exact P.drew.below' hq | exact (P.alloc _).below' hq | exact (P.drew.alloc _).below' hq | exact (P.alloc _).drew.below' hq); replace r1 := R.r1; have gl := R.gl; have gz := R.bb.size; have gb := R.b.lt; have gp := P.lt; (first | (replace Q := Q.below' hq; replace z0 := Q.cell 0; replace z1 := Q.cell 1; replace z2 := Q.cell 2; replace zf0 := Q.frozen 0; replace zf1 := Q.frozen 1; replace zf2 := Q.frozen 2; simp at z0 z1 z2) | (have Q := (by with_reducible first | exact (Blk.new _ #[.int .i64 0, .int .i64 0, .int .i64 0] 24).below' hq | exact (Blk.new _ #[.int .i64 0, .int .i64 0, .int .i64 0] 24).drew.below' hq); have z0 := Q.cell 0; have z1 := Q.cell 1; have z2 := Q.cell 2; have zf0 := Q.frozen 0; have zf1 := Q.frozen 1; have zf2 := Q.frozen 2; simp at z0 z1 z2) | skip); clear hq; unfold startV) | (go_at_call 12; refine (hAdv.out _).mono ?_; rintro e wa ⟨rfl, hq⟩; replace R := (by with_reducible first | exact R.below hq | exact R.drew.below hq | exact (R.alloc _).below hq | exact (R.drew.alloc _).below hq | exact (R.alloc _).drew.below hq); replace P := (by with_reducible first | exact P.below' hq | exact P.drew.below' hq | exact (P.alloc _).below' hq | exact (P.drew.alloc _).below' hq | exact (P.alloc _).drew.below' hq); replace r1 := R.r1; have gl := R.gl; have gz := R.bb.size; have gb := R.b.lt; have gp := P.lt; (first | (replace Q := Q.below' hq; replace z0 := Q.cell 0; replace z1 := Q.cell 1; replace z2 := Q.cell 2; replace zf0 := Q.frozen 0; replace zf1 := Q.frozen 1; replace zf2 := Q.frozen 2; simp at z0 z1 z2) | (have Q := (by with_reducible first | exact (Blk.new _ #[.int .i64 0, .int .i64 0, .int .i64 0] 24).below' hq | exact (Blk.new _ #[.int .i64 0, .int .i64 0, .int .i64 0] 24).drew.below' hq); have z0 := Q.cell 0; have z1 := Q.cell 1; have z2 := Q.cell 2; have zf0 := Q.frozen 0; have zf1 := Q.frozen 1; have zf2 := Q.frozen 2; simp at z0 z1 z2) | skip); clear hq))
        all_goals
          (first | (obtain ⟨Wz, bq, hbq, hWz, R, P, Q⟩ := leafR R P Q (by omega) (by omega) (by omega) (by omega); rw [hWz, hbq]; clear hWz hbq) | (obtain ⟨Wz, bq, hbq, hWz, R, P, Q⟩ := leafR (R.alloc _) (P.alloc _) (Blk.new _ #[.int .i64 0, .int .i64 0, .int .i64 0] 24) (by omega) (by omega) (by omega) (by omega); rw [hWz, hbq]; clear hWz hbq) | (obtain ⟨Wz, bq, hbq, hWz, R, P, Q⟩ := leafN (T := 24) R P; rw [hWz, hbq]; clear hWz hbq))
          (replace r1 := R.r1; have q0 := P.cell 0; have q1 := P.cell 1; have q2 := P.cell 2; have z0 := Q.cell 0; have z1 := Q.cell 1; have z2 := Q.cell 2; simp at q0 q1 q2 z0 z1 z2)
          go_wp2_with fail
          have hn1 : ¬ (((Utf8.decode s o2).2 : Nat) : Int) < 1 := by omega
          have hn2 : decide ((((Utf8.decode s o2).2 : Nat) : Int) < 1) = false := by simp; omega
          by_cases h102 : byteAt s o2 = 10
          · have hf2 : ((byteAt s o2 : Int) != 10) = false := by simp; omega
            replace h102 := Lib.hid h102
            go_quiet (fail)
            replace R : RF os L1 K1 g b4 i o o2 w (Wz.drewN nq) := ⟨R.b, R.r1, R.r2, R.gl, R.bb.trans ⟨rfl, rfl, rfl, Nat.le_refl _, fun _ _ => rfl⟩, R.row⟩
            replace P : Blk (Wz.drewN nq) b7 #[.int .i64 o2, .int .i64 L1, .int .i64 (K1 + 1)] 24 := P
            obtain ⟨W7, hW7⟩ : ∃ W7, Wz.drewN nq = W7 := ⟨_, rfl⟩
            rw [hW7] at P R ⊢
            clear hW7
            replace r1 := R.r1; replace q0 := P.cell 0; replace q1 := P.cell 1; replace q2 := P.cell 2
            simp at q0 q1 q2
            have hwi : IntKind.i64.wrap ((i : Int) + 1) = (i : Int) + 1 := IntWalk.i64_in _ (by omega)
            have l0 := R.b.cell 0; have l1 := R.b.cell 1; have l2 := R.b.cell 2; have lf0 := R.b.frozen 0; have lf1 := R.b.frozen 1; have lf2 := R.b.frozen 2
            simp at l0 l1 l2
            have hS := fun x y z => R.store hgb2 hb40 x y z
            replace hS := Lib.hid hS
            go_wp2
            go_roundw
            case rel =>
              obtain ⟨s1, s2, s3⟩ := hS.out (.int .i64 o2) (.int .i64 L1) (.int .i64 (K1 + 1))
              exact ⟨i + 1, by simp, by omega, by omega, ⟨o2, by omega, fun h => by have := ho2.out; simp only [Nat.add_sub_cancel]; exact this.symm, by rw [← hL2.out, ← hK2.out]; exact s1⟩, s2, s3⟩
            case measure => simp [RowKit.intOf]; omega
          · obtain ⟨c, hc1, hc2, hc⟩ := hCnt.out h102
            have hf2 : ((byteAt s o2 : Int) != 10) = true := by simp; omega
            have hf3 : ¬ (byteAt s o2 : Int) = 10 := by omega
            have hn3 : ¬ (c : Int) < K1 + 1 := by omega
            have hn4 : decide ((c : Int) < K1 + 1) = false := by simp; omega
            go_region_held3 (fun w' => w'.cell? ⟨g, i, none⟩ = some (.int .i64 o2) ∧ w'.cell? ⟨b7, 0, none⟩ = some (.int .i64 o2) ∧ w'.cell? ⟨b7, 1, none⟩ = some (.int .i64 L1) ∧ w'.cell? ⟨b7, 2, none⟩ = some (.int .i64 (K1 + 1)) ∧ w'.cell? ⟨bq, 0, none⟩ = some (.int .i64 o2) ∧ w'.cell? ⟨bq, 1, none⟩ = some (.int .i64 L1) ∧ w'.cell? ⟨bq, 2, none⟩ = some (.int .i64 (K1 + 1))) (first | exact ⟨r1, q0, q1, q2, z0, z1, z2⟩ | go_keep)
              (first | (go_at_call 18; refine (hc _).mono ?_; rintro e wa ⟨rfl, hq⟩; replace R := (by with_reducible first | exact R.below hq | exact R.drew.below hq); replace P := (by with_reducible first | exact P.below' hq | exact P.drew.below' hq); replace Q := (by with_reducible first | exact Q.below' hq | exact Q.drew.below' hq); replace r1 := R.r1; replace q0 := P.cell 0; replace q1 := P.cell 1; replace q2 := P.cell 2; replace z0 := Q.cell 0; replace z1 := Q.cell 1; replace z2 := Q.cell 2; simp at q0 q1 q2 z0 z1 z2; clear hq))
            all_goals
              clear z0 z1 z2 Q hc hn3 hn4
              have hwi : IntKind.i64.wrap ((i : Int) + 1) = (i : Int) + 1 := IntWalk.i64_in _ (by omega)
              have l0 := R.b.cell 0; have l1 := R.b.cell 1; have l2 := R.b.cell 2; have lf0 := R.b.frozen 0; have lf1 := R.b.frozen 1; have lf2 := R.b.frozen 2
              simp at l0 l1 l2
              have hS := fun x y z => R.store hgb2 hb40 x y z
              replace hS := Lib.hid hS
              go_wp2
              go_roundw
              case rel =>
                obtain ⟨s1, s2, s3⟩ := hS.out (.int .i64 o2) (.int .i64 L1) (.int .i64 (K1 + 1))
                exact ⟨i + 1, by simp, by omega, by omega, ⟨o2, by omega, fun h => by have := ho2.out; simp only [Nat.add_sub_cancel]; exact this.symm, by rw [← hL2.out, ← hK2.out]; exact s1⟩, s2, s3⟩
              case measure => simp [RowKit.intOf]; omega
    · go_wp2_with fail
      refine (law_awake _).mono ?_
      rintro e w5 ⟨rfl, hq⟩
      go_wp2
      go_ret
      exact ⟨rfl, hbb.trans (hq.mono hbb.size)⟩
