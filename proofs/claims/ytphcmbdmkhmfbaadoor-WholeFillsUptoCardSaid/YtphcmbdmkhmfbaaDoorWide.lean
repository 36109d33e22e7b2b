/- whole.widths: one step of its closure. whole.widths: how wide blocks are, and what hangs on Breaks. -/
import Derived.Test.YtphcmbdmkhmfbaaDoorChk
import Derived.Test.YtphcmbdmkhmfbaaDoorPress
import Derived.Test.YtphcmbdmkhmfbaaDoorPPrint
namespace Go.Proofs.YtphcmbdmkhmfbaaDoor
open Go.RowKit Go.Lib
set_option linter.unusedVariables false
set_option linter.unusedSimpArgs false
/-- The levels' row; the list has the innermost one first. -/
def lvRow : List (Int × Int) → List Value
  | [] => []
  | (e, x) :: r => lvRow r ++ [.int .i64 e, .int .i64 x]
theorem lvRow_len : ∀ (l : List (Int × Int)), (lvRow l).length = l.length * 2
  | [] => rfl
  | (e, x) :: r => by have := lvRow_len r; simp [lvRow, this]; omega
theorem lvRow_end (e x : Int) (r : List (Int × Int)) : (lvRow ((e, x) :: r))[r.length * 2]? = some (.int .i64 e) := by
  rw [lvRow, List.getElem?_append_right (by rw [lvRow_len]; omega), lvRow_len, Nat.sub_self]; rfl
theorem lvRow_next (e x : Int) (r : List (Int × Int)) : (lvRow ((e, x) :: r))[r.length * 2 + 1]? = some (.int .i64 x) := by
  rw [lvRow, List.getElem?_append_right (by rw [lvRow_len]; omega), lvRow_len, Nat.add_sub_cancel_left]; rfl
theorem lvRow_set (e x y : Int) (r : List (Int × Int)) : (lvRow ((e, x) :: r)).set (r.length * 2 + 1) (.int .i64 y) = lvRow ((e, y) :: r) := by
  rw [lvRow, List.set_append_right _ _ (by rw [lvRow_len]; omega), lvRow_len, Nat.add_sub_cancel_left]; rfl
abbrev TL : TypeId := 107
theorem infoL : (Tryd.prog.info? TL).map (fun i => (i.zero, i.size, i.bytes)) = some (some (.agg #[.int .i64 0, .int .i64 0]), 2, 16) := by kernel_rfl
theorem infoI : (Tryd.prog.info? 3).map (fun i => (i.zero, i.size, i.bytes)) = some (some (.int .i64 0), 1, 8) := by kernel_rfl
/-- The variables of widths in memory. -/
structure Wst (w : World) (B n : Nat) (ao : Option Addr) (cap : Nat) (L : List DocV) (vl : Value) (bh : Int) (lv : List (Int × Int)) (out : List Int) : Prop where
  kL : Blk w B #[.slice ao L.length cap] 44
  ro : w.ownsRow B 3 1 (.slice (some ⟨B + 1, 0, none⟩) n n) n (out.map (Value.int .i64))
  ko : Blk w (B + 2) #[.slice (some ⟨B + 1, 0, none⟩) n n] 56
  kb : Blk w (B + 3) #[.int .i64 bh] 3
  rl : w.ownsRow B TL 2 vl lv.length (lvRow lv)
  dl : ∀ k, vl.ownBlock = some k → k = B + 4 ∨ B + 6 ≤ k
  kl : Blk w (B + 5) #[vl] 108
theorem Wst.below {w w' : World} {B n : Nat} {ao : Option Addr} {cap : Nat} {L : List DocV} {vl : Value} {bh : Int} {lv : List (Int × Int)} {out : List Int} (h : Wst w B n ao cap L vl bh lv out) (k : Below w.heap.size w w') : Wst w' B n ao cap L vl bh lv out :=
  ⟨h.kL.below' k, row_below h.ro k, h.ko.below' k, h.kb.below' k, row_below h.rl k, h.dl, h.kl.below' k⟩
theorem Wst.bh {w : World} {B n : Nat} {ao : Option Addr} {cap : Nat} {L : List DocV} {vl : Value} {bh : Int} {lv : List (Int × Int)} {out : List Int} (h : Wst w B n ao cap L vl bh lv out) (b' : Int) : Wst (w.setCell ⟨B + 3, 0, none⟩ (.int .i64 b')) B n ao cap L vl b' lv out ∧ Below B w (w.setCell ⟨B + 3, 0, none⟩ (.int .i64 b')) := by
  have k : Kept (fun i => i = B + 3) w (w.setCell ⟨B + 3, 0, none⟩ (.int .i64 b')) := (Kept.refl (fun i => i = B + 3) w).setCell ⟨B + 3, 0, none⟩ _ rfl
  refine ⟨⟨h.kL.kept k (by omega), row_kept h.ro k (fun g hg => ?_), h.ko.kept k (by omega), by simpa using h.kb.set 0 (.int .i64 b'), row_kept h.rl k (fun g hg => ?_), h.dl, h.kl.kept k (by omega)⟩, (Below.refl _ _).setCell (by show B ≤ B + 3; omega) _⟩
  · simp [Value.ownBlock] at hg; omega
  · have := h.dl g hg; omega
theorem Wst.lv {w : World} {B n : Nat} {ao : Option Addr} {cap : Nat} {L : List DocV} {vl vl' : Value} {bh : Int} {lv lv' : List (Int × Int)} {out : List Int} (h : Wst w B n ao cap L vl bh lv out) (hr : w.ownsRow B TL 2 vl' lv'.length (lvRow lv')) (hd : ∀ k, vl'.ownBlock = some k → k = B + 4 ∨ B + 6 ≤ k) : Wst (w.setCell ⟨B + 5, 0, none⟩ vl') B n ao cap L vl' bh lv' out ∧ Below B w (w.setCell ⟨B + 5, 0, none⟩ vl') := by
  have k : Kept (fun i => i = B + 5) w (w.setCell ⟨B + 5, 0, none⟩ vl') := (Kept.refl (fun i => i = B + 5) w).setCell ⟨B + 5, 0, none⟩ _ rfl
  refine ⟨⟨h.kL.kept k (by omega), row_kept h.ro k (fun g hg => ?_), h.ko.kept k (by omega), h.kb.kept k (by omega), row_kept hr k (fun g hg => ?_), hd, by simpa using h.kl.set 0 vl'⟩, (Below.refl _ _).setCell (by show B ≤ B + 5; omega) _⟩
  · simp [Value.ownBlock] at hg; omega
  · have := hd g hg; omega
theorem Wst.out {w : World} {B n : Nat} {ao : Option Addr} {cap : Nat} {L : List DocV} {vl : Value} {bh : Int} {lv : List (Int × Int)} {out : List Int} (h : Wst w B n ao cap L vl bh lv out) (i : Nat) (x : Int) : Wst (w.setCell ⟨B + 1, i, none⟩ (.int .i64 x)) B n ao cap L vl bh lv (out.set i x) ∧ Below B w (w.setCell ⟨B + 1, i, none⟩ (.int .i64 x)) := by
  have k : Kept (fun i => i = B + 1) w (w.setCell ⟨B + 1, i, none⟩ (.int .i64 x)) := (Kept.refl (fun i => i = B + 1) w).setCell ⟨B + 1, i, none⟩ _ rfl
  refine ⟨⟨h.kL.kept k (by omega), ?_, h.ko.kept k (by omega), h.kb.kept k (by omega), row_kept h.rl k (fun g hg => ?_), h.dl, h.kl.kept k (by omega)⟩, (Below.refl _ _).setCell (by show B ≤ B + 1; omega) _⟩
  · rw [List.map_set]; exact (World.ownsRow.stored h.ro i _).1
  · have := h.dl g hg; omega
theorem Wst.top {w : World} {B n : Nat} {ao : Option Addr} {cap : Nat} {L : List DocV} {vl : Value} {bh e x : Int} {r : List (Int × Int)} {out : List Int} (h : Wst w B n ao cap L vl bh ((e, x) :: r) out) :
    ∃ g cl, vl = .slice (some ⟨g, 0, none⟩) (r.length + 1) cl ∧ w.cell? ⟨g, r.length * 2, none⟩ = some (.int .i64 e) ∧ w.cell? ⟨g, r.length * 2 + 1, none⟩ = some (.int .i64 x) ∧ (∀ j, w.frozen? ⟨g, j, none⟩ = false) ∧ (g = B + 4 ∨ B + 6 ≤ g) ∧ g < w.heap.size ∧ r.length + 1 ≤ cl ∧ cl ≤ maxLen := by
  rcases h.rl.2 with ⟨_, h2⟩ | ⟨g, cl, cur, h1, h2, h3, h4, h5, h6⟩
  · simp at h2
  · have hr := h.rl
    have hdl := h.dl
    rw [h1] at hr hdl
    refine ⟨g, cl, by simpa using h1, ?_, ?_, fun j => World.ownsRow.frozenAt hr j, hdl g rfl, (Array.getElem?_eq_some_iff.1 h3).1, h4, h5⟩
    · rw [World.ownsRow.cellAt hr _ (by first | omega | (simp only [List.length_cons]; omega))]; exact lvRow_end e x r
    · rw [World.ownsRow.cellAt hr _ (by first | omega | (simp only [List.length_cons]; omega))]; exact lvRow_next e x r
theorem Wst.topc {w : World} {B n : Nat} {ao : Option Addr} {cap g cl : Nat} {L : List DocV} {bh e x : Int} {r : List (Int × Int)} {out : List Int} (h : Wst w B n ao cap L (.slice (some ⟨g, 0, none⟩) (r.length + 1) cl) bh ((e, x) :: r) out) :
    w.cell? ⟨g, r.length * 2, none⟩ = some (.int .i64 e) ∧ w.cell? ⟨g, r.length * 2 + 1, none⟩ = some (.int .i64 x) ∧ w.frozen? ⟨g, r.length * 2 + 1, none⟩ = false := by
  refine ⟨?_, ?_, World.ownsRow.frozenAt h.rl _⟩
  · rw [World.ownsRow.cellAt h.rl _ (by first | omega | (simp only [List.length_cons]; omega))]; exact lvRow_end e x r
  · rw [World.ownsRow.cellAt h.rl _ (by first | omega | (simp only [List.length_cons]; omega))]; exact lvRow_next e x r
theorem Wst.drew {w : World} {B n : Nat} {ao : Option Addr} {cap : Nat} {L : List DocV} {vl : Value} {bh : Int} {lv : List (Int × Int)} {out : List Int} (h : Wst w B n ao cap L vl bh lv out) : Wst w.drew B n ao cap L vl bh lv out := ⟨h.kL, h.ro, h.ko, h.kb, h.rl, h.dl, h.kl⟩
/-- A level more. -/
theorem Wst.more {w w' : World} {B n : Nat} {ao : Option Addr} {cap : Nat} {L : List DocV} {vl vl' : Value} {bh : Int} {lv lv' : List (Int × Int)} {out : List Int} (h : Wst w B n ao cap L vl bh lv out) (hv : w'.ownsRow B TL 2 vl' lv'.length (lvRow lv')) (hg : w.grownBy w' vl.ownBlock) (hn : Next w vl vl') :
    Wst (w'.setCell ⟨B + 5, 0, none⟩ vl') B n ao cap L vl' bh lv' out ∧ Below B w (w'.setCell ⟨B + 5, 0, none⟩ vl') ∧ w'.cell? ⟨B + 5, 0, none⟩ = some vl ∧ w'.frozen? ⟨B + 5, 0, none⟩ = false := by
  have k := kept_of_grown hg
  have hBw : B ≤ w.heap.size := by have := h.kl.lt; omega
  have hno : ∀ j, j < 4 ∨ j = 5 → ¬ vl.ownBlock = some (B + j) := fun j hj e => by have := h.dl _ e; omega
  have hkl := h.kl.kept k (hno 5 (.inr rfl))
  have h2 : Wst w' B n ao cap L vl' bh lv' out → Wst (w'.setCell ⟨B + 5, 0, none⟩ vl') B n ao cap L vl' bh lv' out ∧ Below B w' (w'.setCell ⟨B + 5, 0, none⟩ vl') := fun h => h.lv hv h.dl
  have hd : ∀ g, vl'.ownBlock = some g → g = B + 4 ∨ B + 6 ≤ g := fun g e => by
    rcases hn g e with e | e
    · exact h.dl g e
    · have := h.kl.lt; omega
  have k5 : Kept (fun i => i = B + 5) w' (w'.setCell ⟨B + 5, 0, none⟩ vl') := (Kept.refl (fun i => i = B + 5) w').setCell ⟨B + 5, 0, none⟩ _ rfl
  refine ⟨⟨(h.kL.kept k (hno 0 (.inl (by omega)))).kept k5 (by omega), row_kept (row_kept h.ro k (fun g hg => ?_)) k5 (fun g hg => ?_), (h.ko.kept k (hno 2 (.inl (by omega)))).kept k5 (by omega), (h.kb.kept k (hno 3 (.inl (by omega)))).kept k5 (by omega), row_kept hv k5 (fun g hg => ?_), hd, by simpa using hkl.set 0 vl'⟩, (k.below hBw (fun i e => ?_)).trans ((Below.refl _ _).setCell (by show B ≤ B + 5; omega) _), by simpa using hkl.cell 0, hkl.frozen 0⟩
  · have : B + 1 = g := by simpa [Value.ownBlock] using hg
    subst this; exact hno 1 (.inl (by omega))
  · simp [Value.ownBlock] at hg; omega
  · have := hd g hg; omega
  · have := h.dl i e; omega
theorem new_two (w : World) (a b : Value) (t : TypeId) (j : Nat) (u : Value) (h : [a, b][j]? = some u) : (w.alloc (.cells #[a, b] t)).cell? ((⟨w.heap.size, 0, none⟩ : Addr).add j) = some u := by
  rw [add_zero_off, (Blk.new w #[a, b] t).cell j]
  simpa using h
/-- What hangs on a Break ends here. -/
theorem Wst.next {w : World} {B n : Nat} {ao : Option Addr} {cap g c : Nat} {L : List DocV} {bh e x : Int} {r : List (Int × Int)} {out : List Int} (h : Wst w B n ao cap L (.slice (some ⟨g, 0, none⟩) (r.length + 1) c) bh ((e, x) :: r) out) (y : Int) :
    Wst (w.setCell ⟨g, r.length * 2 + 1, none⟩ (.int .i64 y)) B n ao cap L (.slice (some ⟨g, 0, none⟩) (r.length + 1) c) bh ((e, y) :: r) out ∧ Below B w (w.setCell ⟨g, r.length * 2 + 1, none⟩ (.int .i64 y)) := by
  have hg := h.dl g rfl
  have k : Kept (fun i => i = g) w (w.setCell ⟨g, r.length * 2 + 1, none⟩ (.int .i64 y)) := (Kept.refl (fun i => i = g) w).setCell ⟨g, r.length * 2 + 1, none⟩ _ rfl
  refine ⟨⟨h.kL.kept k (by omega), row_kept h.ro k (fun g' hg' => ?_), h.ko.kept k (by omega), h.kb.kept k (by omega), ?_, h.dl, h.kl.kept k (by omega)⟩, (Below.refl _ _).setCell (by show B ≤ g; omega) _⟩
  · simp [Value.ownBlock] at hg'; omega
  · have := (World.ownsRow.stored h.rl (r.length * 2 + 1) (.int .i64 y)).1
    rw [lvRow_set] at this; exact this
/-- One step. -/
def wLv (d : DocV) (was b' : Int) (e x : Int) (r : List (Int × Int)) : List (Int × Int) :=
  if d.k = 7 then (was, was) :: (e, x) :: r else if d.k = 6 then r else if d.k = 3 ∨ d.k = 4 ∨ d.k = 5 then (e, b') :: r else (e, x) :: r
def wOut (d : DocV) (i : Nat) (was b' : Int) (e x : Int) (out : List Int) : List Int :=
  if d.k = 6 then out.set i (was - e) else if d.k = 3 then out.set i (b' - x) else out

set_option maxHeartbeats 4000000 in
set_option maxRecDepth 100000 in
theorem wst_step (B n i : Nat) (ao : Option Addr) (cap : Nat) (L : List DocV) (vl : Value) (bh e x : Int) (r : List (Int × Int)) (out : List Int) (d : DocV) (w : World) (h : Wst w B n ao cap L vl bh ((e, x) :: r) out) (hL : Docs w ao L) (hlow : ∀ b o, ao = some ⟨b, o, none⟩ → b < B)
    (hd : L[i]? = some d) (hn : n = L.length) (hl : L.length ≤ 2097152) (hT : Tabs w) (ht : d.t.size ≤ 65536) (hb : 0 ≤ d.b ∧ d.b ≤ 1000) (h0 : 0 ≤ bh ∧ bh ≤ 4398046511104) (h1 : 0 ≤ e ∧ e ≤ bh) (h2 : 0 ≤ x ∧ x ≤ bh) (hr : r.length ≤ 2097152) :
    Calls Tryd.prog 73 #[.int .i64 i, .pointer (some ⟨B + 5, 0, none⟩), .pointer (some ⟨B + 3, 0, none⟩), .pointer (some ⟨B, 0, none⟩), .pointer (some ⟨B + 2, 0, none⟩)] w
      fun e' w' => e' = .returned (.tuple #[]) ∧ (∃ vl', Wst w' B n ao cap L vl' (bh + wideAs 1048576 d) (wLv d bh (bh + wideAs 1048576 d) e x r) (wOut d i bh (bh + wideAs 1048576 d) e x out)) ∧ Below B w w' := by
  obtain ⟨g, cl, rfl, t0, t1, tf, hg, hgl, hcl, hcm⟩ := h.top
  have hi : i < L.length := (List.getElem?_eq_some_iff.1 hd).1
  obtain ⟨db, dO, rfl, c0, c1, c2, c3, c4⟩ := hL i d hd
  have hdb := hlow db dO rfl
  have hof := fun W (h : Tabs W) => press_Of d W h (by omega)
  obtain ⟨k, t, bb, dn, de⟩ := d
  obtain ⟨V, hV⟩ : ∃ V, wideAs 1048576 ⟨k, t, bb, dn, de⟩ = V := ⟨_, rfl⟩
  have hVb : 0 ≤ V ∧ V ≤ 2097152 := by
    have := wid_le t.data.toList
    have hs : t.data.toList.length = t.size := Array.length_toList
    rw [← hV]; unfold wideAs; simp only at hb ht ⊢
    split <;> (try split) <;> (try split) <;> (try split) <;> first | omega | skip
  rw [hV] at hof ⊢
  obtain ⟨RL, hRL⟩ : ∃ RL, wLv ⟨k, t, bb, dn, de⟩ bh (bh + V) e x r = RL := ⟨_, rfl⟩
  obtain ⟨RO, hRO⟩ : ∃ RO, wOut ⟨k, t, bb, dn, de⟩ i bh (bh + V) e x out = RO := ⟨_, rfl⟩
  rw [hRL, hRO]
  replace hRL := Lib.hid hRL; replace hRO := Lib.hid hRO
  unfold DocV.agg at hof
  simp only at hof c0 c1 c2 c3 c4
  obtain ⟨T, hT'⟩ : ∃ T, r.length = T := ⟨_, rfl⟩
  rw [hT'] at t0 t1 hcl
  have q0 := h.kL.cell 0; have q1 := h.ko.cell 0; have q2 := h.kb.cell 0; have q3 := h.kl.cell 0
  have z2 := h.kb.frozen 0
  simp at q0 q1 q2 q3
  rw [hT'] at q3
  have hi1 : (i : Int) < L.length := by omega
  have hi2 : (0 : Int) ≤ i := by omega
  have hwT : IntKind.i64.wrap (((T + 1 : Nat) : Int) - 1) = (T : Int) := by rw [show ((T + 1 : Nat) : Int) - 1 = T by omega]; exact IntWalk.i64_in _ (by omega)
  have hwT2 : IntKind.i64.wrap (T : Int) = (T : Int) := IntWalk.i64_in _ (by omega)
  have hwT3 : IntKind.i64.wrap ((T : Int) + 1 - 1) = (T : Int) := by rw [Int.add_sub_cancel]; exact hwT2
  have hT3 : (T : Int) < (T : Int) + 1 := by omega
  have hT1 : (T : Int) < ((T + 1 : Nat) : Int) := by omega
  have hT2 : (0 : Int) ≤ T := by omega
  have hwV : IntKind.i64.wrap (bh + V) = bh + V := IntWalk.i64_in _ (by omega)
  have hBw : B ≤ w.heap.size := by have := h.kl.lt; omega
  replace h := Lib.hid h; replace hL := Lib.hid hL; replace hV := Lib.hid hV; replace hd := Lib.hid hd; replace hlow := Lib.hid hlow; replace hof := Lib.hid hof; replace tf := Lib.hid tf; replace hn := Lib.hid hn; replace hT' := Lib.hid hT'; replace hT := Lib.hid hT
  go_enter Tryd.func73, Tryd.ntmps73
  go_wp2_with fail
  refine wp_region_late (fun w' => w'.cell? ⟨B + 3, 0, none⟩ = some (.int .i64 bh) ∧ w'.cell? ⟨B, 0, none⟩ = some (.slice (some ⟨db, dO, none⟩) L.length cap) ∧ w'.cell? ⟨db, dO + i * 5, none⟩ = some (.int .u8 k) ∧ w'.cell? ⟨db, dO + i * 5 + 1, none⟩ = some (.string t) ∧ w'.cell? ⟨db, dO + i * 5 + 2, none⟩ = some (.int .i64 bb) ∧ w'.cell? ⟨db, dO + i * 5 + 3, none⟩ = some (.int .i64 dn) ∧ w'.cell? ⟨db, dO + i * 5 + 4, none⟩ = some (.bool de)) 7 (by kernel_rfl) (by first | go_keep | (dsimp only; go_keep)) (fun hHeld => ?_)
  refine wpLate_take (i := 0) (v := ?_) rfl (by kernel_rfl) (fun _ _ _ h => h) (Or.inl ⟨by rfl, ?_⟩) hHeld ?_
  rotate_left
  · (intro w hSw; (try dsimp only at hSw); go_simp; try with_reducible rfl)
  simp only [Act.put, List.setIfInBounds_toArray, List.set_cons_zero, List.set_cons_succ]
  refine wpLate_take (i := 1) (v := ?_) rfl (by kernel_rfl) (fun _ _ _ h => h) (Or.inl ⟨by rfl, ?_⟩) hHeld ?_
  rotate_left
  · (intro w hSw; (try dsimp only at hSw); go_simp; try with_reducible rfl)
  simp only [Act.put, List.setIfInBounds_toArray, List.set_cons_zero, List.set_cons_succ]
  refine wpLate_take (i := 2) (v := ?_) rfl (by kernel_rfl) (fun _ _ _ h => h) (Or.inl ⟨by rfl, ?_⟩) hHeld ?_
  rotate_left
  · (intro w hSw; (try dsimp only at hSw); go_simp; try with_reducible rfl)
  simp only [Act.put, List.setIfInBounds_toArray, List.set_cons_zero, List.set_cons_succ]
  refine wpLate_take (i := 3) (v := ?_) rfl (by kernel_rfl) (fun _ _ _ h => h) (Or.inl ⟨by rfl, ?_⟩) hHeld ?_
  rotate_left
  · (intro w hSw; (try dsimp only at hSw); go_simp; try with_reducible rfl)
  simp only [Act.put, List.setIfInBounds_toArray, List.set_cons_zero, List.set_cons_succ]
  refine wpLate_take (i := 4) (v := ?_) rfl (by kernel_rfl) (fun _ _ _ h => h) (Or.inl ⟨by rfl, ?_⟩) hHeld ?_
  rotate_left
  · (intro w hSw; (try dsimp only at hSw); go_simp; try with_reducible rfl)
  simp only [Act.put, List.setIfInBounds_toArray, List.set_cons_zero, List.set_cons_succ]
  refine wpLate_step (i := 5) (by kernel_rfl) rfl (fun K hK => ?_)
  go_simp
  go_at_call 74
  refine (hof.out _ (hT.out.below (Below.refl _ _).drew)).mono ?_
  rintro e' w2 ⟨rfl, b2⟩
  have b2' : Below w.heap.size w w2 := ((Below.refl _ w).drew).trans b2
  have h2 := h.out.below b2'
  have z2' := h2.kb.frozen 0
  replace b2' := Lib.hid b2'; replace h2 := Lib.hid h2; clear b2
  refine hK.out _ _ ?_ (fun hHeld => ?_)
  · first | exact ⟨keepC b2'.out q2, keepC b2'.out q0, keepC b2'.out c0, keepC b2'.out c1, keepC b2'.out c2, keepC b2'.out c3, keepC b2'.out c4⟩ | (dsimp only; exact ⟨keepC b2'.out q2, keepC b2'.out q0, keepC b2'.out c0, keepC b2'.out c1, keepC b2'.out c2, keepC b2'.out c3, keepC b2'.out c4⟩)
  clear hK K
  try simp only [Act.put, List.setIfInBounds_toArray, List.set_cons_zero, List.set_cons_succ]
  refine wpLate_take (i := 6) (v := ?_) rfl (by kernel_rfl) (fun _ _ _ h => h) (Or.inl ⟨by rfl, ?_⟩) hHeld ?_
  rotate_left
  · (intro w hSw; (try dsimp only at hSw); go_simp; try with_reducible rfl)
  simp only [Act.put, List.setIfInBounds_toArray, List.set_cons_zero, List.set_cons_succ]
  refine wpLate_last (by kernel_rfl) rfl (by kernel_rfl) (fun K hK => ?_)
  go_simp
  refine hK.out _ _ ?_
  clear hK K
  have h3 := h2.out.bh (bh + V)
  obtain ⟨W3, hW3⟩ : ∃ W3, w2.setCell ⟨B + 3, 0, none⟩ (.int .i64 (bh + V)) = W3 := ⟨_, rfl⟩
  rw [hW3] at h3 ⊢
  have hq3 : Below B w W3 := (b2'.out.mono hBw).trans h3.2
  have h3 := h3.1
  have c0 := (hq3.cell (p := ⟨db, dO + i * 5, none⟩) hdb).trans c0
  have hB3 : B ≤ W3.heap.size := Nat.le_trans hBw hq3.size
  have q0 := h3.kL.cell 0; have q1 := h3.ko.cell 0; have q2 := h3.kb.cell 0; have q3 := h3.kl.cell 0
  have z3 := h3.kl.frozen 0
  simp at q0 q1 q2 q3
  rw [hT'.out] at q3
  obtain ⟨t0, t1, t2⟩ := h3.topc
  rw [hT'.out] at t0 t1 t2
  have r1 : W3.cell? ⟨B + 1, i, none⟩ = (out.map (Value.int .i64))[i]? := World.ownsRow.cellAt h3.ro i (by have := hn.out; omega)
  have r2 : ∃ y, W3.cell? ⟨B + 1, i, none⟩ = some (.int .i64 y) := by
    have hlen := h3.ro.1
    have := hn.out
    rw [r1]
    exact ⟨(out[i]'(by simp at hlen; omega)), by simp⟩
  obtain ⟨y, r2⟩ := r2
  have r3 := World.ownsRow.frozenAt h3.ro i
  have hni : (i : Int) < n := by have := hn.out; omega
  clear r1 hHeld hW3 c1 c2 c3 c4 b2' h2 z2' z2 hgl hdb
  replace h3 := Lib.hid h3; replace hq3 := Lib.hid hq3
  clear hof h tf
  by_cases k7 : k = 7
  · subst k7
    have e1 := hRL.out
    have e2 := hRO.out
    rw [show wLv ⟨7, t, bb, dn, de⟩ bh (bh + V) e x r = (bh, bh) :: (e, x) :: r by simp [wLv]] at e1
    rw [show wOut ⟨7, t, bb, dn, de⟩ i bh (bh + V) e x out = out by simp [wOut]] at e2
    subst e1; subst e2
    clear hRL hRO
    go_wp2_with (at_builtin; refine app_at rfl (.tmp 28) (.tmp 32) 108 TL rfl B Tryd.underlying108 infoL rfl (by decide) (by first | rfl | simp [Act.eval, Act.put, hT'.out]) (World.ownsRow.alloc h3.out.rl _) ⟨W3.heap.size, 0, none⟩ 1 1 [.int .i64 bh, .int .i64 bh] (by first | rfl | simp [Act.eval, Act.put]) rfl (new_two W3 _ _ _) (by simp [Value.oneCell']) (by simp only [List.length_cons]; omega) (by simp only [List.length_cons]; omega) (by simp; omega) ?_; intro v4 w4 hv4 hg4 hn4; obtain ⟨va, vc, rfl⟩ := ownsRow_shape hv4; have hM := (h3.out.below ((Below.refl _ _).alloc (Nat.le_refl _) _)).more (lv' := (bh, bh) :: (e, x) :: r) hv4 hg4 hn4; have s1 := hM.2.2.1; have s2 := hM.2.2.2; replace hM := Lib.hid hM; clear hv4 hg4 hn4; rw [hT'.out] at s1)
    first | go_end0 | refine bodyPost_ret (results_none rfl _ _ _) rfl ?_
    exact ⟨rfl, ⟨_, hM.out.1⟩, (hq3.out.trans ((Below.refl _ _).alloc hB3 _)).trans hM.out.2.1⟩

  by_cases k6 : k = 6
  · subst k6
    have e1 := hRL.out
    have e2 := hRO.out
    rw [show wLv ⟨6, t, bb, dn, de⟩ bh (bh + V) e x r = r by simp [wLv]] at e1
    rw [show wOut ⟨6, t, bb, dn, de⟩ i bh (bh + V) e x out = out.set i (bh - e) by simp [wOut]] at e2
    subst e1; subst e2
    clear hRL hRO
    have hw1 : IntKind.i64.wrap (bh - e) = bh - e := IntWalk.i64_in _ (by omega)
    go_wp2_with fail
    refine wp_region_late (fun w' => w'.cell? ⟨B + 2, 0, none⟩ = some (.slice (some ⟨B + 1, 0, none⟩) n n) ∧ w'.cell? ⟨g, T * 2, none⟩ = some (.int .i64 e)) 9 (by kernel_rfl) (by first | go_keep | (dsimp only; go_keep)) (fun hHeld => ?_)
    refine wpLate_take (i := 0) (v := ?_) rfl (by kernel_rfl) (fun _ _ _ h => h) (Or.inl ⟨by rfl, ?_⟩) hHeld ?_
    rotate_left
    · (intro w hSw; (try dsimp only at hSw); go_simp; try with_reducible rfl)
    simp only [Act.put, List.setIfInBounds_toArray, List.set_cons_zero, List.set_cons_succ]
    refine wpLate_take (i := 1) (v := ?_) rfl (by kernel_rfl) (fun _ _ _ h => h) (Or.inl ⟨by rfl, ?_⟩) hHeld ?_
    rotate_left
    · (intro w hSw; (try dsimp only at hSw); go_simp; try with_reducible rfl)
    simp only [Act.put, List.setIfInBounds_toArray, List.set_cons_zero, List.set_cons_succ]
    refine wpLate_take (i := 2) (v := ?_) rfl (by kernel_rfl) (fun _ _ _ h => h) (Or.inl ⟨by rfl, ?_⟩) hHeld ?_
    rotate_left
    · (intro w hSw; (try dsimp only at hSw); go_simp; try with_reducible rfl)
    simp only [Act.put, List.setIfInBounds_toArray, List.set_cons_zero, List.set_cons_succ]
    refine wpLate_take (i := 3) (v := ?_) rfl (by kernel_rfl) (fun _ _ _ h => h) (Or.inl ⟨by rfl, ?_⟩) hHeld ?_
    rotate_left
    · (intro w hSw; (try dsimp only at hSw); go_simp; try with_reducible rfl)
    simp only [Act.put, List.setIfInBounds_toArray, List.set_cons_zero, List.set_cons_succ]
    refine wpLate_take (i := 4) (v := ?_) rfl (by kernel_rfl) (fun _ _ _ h => h) (Or.inl ⟨by rfl, ?_⟩) hHeld ?_
    rotate_left
    · (intro w hSw; (try dsimp only at hSw); go_simp; try with_reducible rfl)
    simp only [Act.put, List.setIfInBounds_toArray, List.set_cons_zero, List.set_cons_succ]
    refine wpLate_take (i := 5) (v := ?_) rfl (by kernel_rfl) (fun _ _ _ h => h) (Or.inl ⟨by rfl, ?_⟩) hHeld ?_
    rotate_left
    · (intro w hSw; (try dsimp only at hSw); go_simp; try with_reducible rfl)
    simp only [Act.put, List.setIfInBounds_toArray, List.set_cons_zero, List.set_cons_succ]
    refine wpLate_take (i := 6) (v := ?_) rfl (by kernel_rfl) (fun _ _ _ h => h) (Or.inl ⟨by rfl, ?_⟩) hHeld ?_
    rotate_left
    · (intro w hSw; (try dsimp only at hSw); go_simp; try with_reducible rfl)
    simp only [Act.put, List.setIfInBounds_toArray, List.set_cons_zero, List.set_cons_succ]
    refine wpLate_take (i := 7) (v := ?_) rfl (by kernel_rfl) (fun _ _ _ h => h) (Or.inl ⟨by rfl, ?_⟩) hHeld ?_
    rotate_left
    · (intro w hSw; (try dsimp only at hSw); go_simp; try with_reducible rfl)
    simp only [Act.put, List.setIfInBounds_toArray, List.set_cons_zero, List.set_cons_succ]
    refine wpLate_take (i := 8) (v := ?_) rfl (by kernel_rfl) (fun _ _ _ h => h) (Or.inl ⟨by rfl, ?_⟩) hHeld ?_
    rotate_left
    · (intro w hSw; (try dsimp only at hSw); go_simp; try with_reducible rfl)
    simp only [Act.put, List.setIfInBounds_toArray, List.set_cons_zero, List.set_cons_succ]
    refine wpLate_last (by kernel_rfl) rfl (by kernel_rfl) (fun K hK => ?_)
    go_simp
    refine hK.out _ _ ?_
    clear hK K
    have h4 := h3.out.out i (bh - e)
    obtain ⟨W4, hW4⟩ : ∃ W4, (W3.setCell ⟨B + 1, i, none⟩ (.int .i64 (bh - e))).drew = W4 := ⟨_, rfl⟩
    rw [hW4]
    have h4w : Wst W4 B n (some ⟨db, dO, none⟩) cap L (.slice (some ⟨g, 0, none⟩) (r.length + 1) cl) (bh + V) ((e, x) :: r) (out.set i (bh - e)) := by rw [← hW4]; exact h4.1.drew
    have hq4 : Below B W3 W4 := by rw [← hW4]; exact h4.2.drew
    have hrow : W4.ownsRow B TL 2 (.slice (some ⟨g, 0, none⟩) r.length cl) r.length (lvRow r) := ownsRow_pop (last := [.int .i64 e, .int .i64 x]) (lvRow_len r) (by have := h4w.rl; simpa [lvRow] using this)
    have h5 := h4w.lv (lv' := r) hrow (fun k hk => h4w.dl k hk)
    have u3 := h4w.kl.cell 0; have u4 := h4w.kl.frozen 0
    simp at u3
    rw [hT'.out] at u3 h5
    have hc1 : (T : Int) ≤ cl := by omega
    clear hW4 h4 hrow
    replace h4w := Lib.hid h4w; replace h5 := Lib.hid h5; replace hq4 := Lib.hid hq4
    go_wp2_with fail
    first | go_end0 | refine bodyPost_ret (results_none rfl _ _ _) rfl ?_
    exact ⟨rfl, ⟨_, h5.out.1⟩, (hq3.out.trans hq4.out).trans h5.out.2⟩
  by_cases k3 : k = 3
  · subst k3
    have e1 := hRL.out
    have e2 := hRO.out
    rw [show wLv ⟨3, t, bb, dn, de⟩ bh (bh + V) e x r = (e, bh + V) :: r by simp [wLv]] at e1
    rw [show wOut ⟨3, t, bb, dn, de⟩ i bh (bh + V) e x out = out.set i (bh + V - x) by simp [wOut]] at e2
    subst e1; subst e2
    clear hRL hRO
    have hw1 : IntKind.i64.wrap (bh + V - x) = bh + V - x := IntWalk.i64_in _ (by omega)
    go_wp2_with fail
    refine wp_region_late (fun w' => w'.cell? ⟨B + 2, 0, none⟩ = some (.slice (some ⟨B + 1, 0, none⟩) n n) ∧ w'.cell? ⟨B + 3, 0, none⟩ = some (.int .i64 (bh + V)) ∧ w'.cell? ⟨g, T * 2 + 1, none⟩ = some (.int .i64 x)) 9 (by kernel_rfl) (by first | go_keep | (dsimp only; go_keep)) (fun hHeld => ?_)
    refine wpLate_take (i := 0) (v := ?_) rfl (by kernel_rfl) (fun _ _ _ h => h) (Or.inl ⟨by rfl, ?_⟩) hHeld ?_
    rotate_left
    · (intro w hSw; (try dsimp only at hSw); go_simp; try with_reducible rfl)
    simp only [Act.put, List.setIfInBounds_toArray, List.set_cons_zero, List.set_cons_succ]
    refine wpLate_take (i := 1) (v := ?_) rfl (by kernel_rfl) (fun _ _ _ h => h) (Or.inl ⟨by rfl, ?_⟩) hHeld ?_
    rotate_left
    · (intro w hSw; (try dsimp only at hSw); go_simp; try with_reducible rfl)
    simp only [Act.put, List.setIfInBounds_toArray, List.set_cons_zero, List.set_cons_succ]
    refine wpLate_take (i := 2) (v := ?_) rfl (by kernel_rfl) (fun _ _ _ h => h) (Or.inl ⟨by rfl, ?_⟩) hHeld ?_
    rotate_left
    · (intro w hSw; (try dsimp only at hSw); go_simp; try with_reducible rfl)
    simp only [Act.put, List.setIfInBounds_toArray, List.set_cons_zero, List.set_cons_succ]
    refine wpLate_take (i := 3) (v := ?_) rfl (by kernel_rfl) (fun _ _ _ h => h) (Or.inl ⟨by rfl, ?_⟩) hHeld ?_
    rotate_left
    · (intro w hSw; (try dsimp only at hSw); go_simp; try with_reducible rfl)
    simp only [Act.put, List.setIfInBounds_toArray, List.set_cons_zero, List.set_cons_succ]
    refine wpLate_take (i := 4) (v := ?_) rfl (by kernel_rfl) (fun _ _ _ h => h) (Or.inl ⟨by rfl, ?_⟩) hHeld ?_
    rotate_left
    · (intro w hSw; (try dsimp only at hSw); go_simp; try with_reducible rfl)
    simp only [Act.put, List.setIfInBounds_toArray, List.set_cons_zero, List.set_cons_succ]
    refine wpLate_take (i := 5) (v := ?_) rfl (by kernel_rfl) (fun _ _ _ h => h) (Or.inl ⟨by rfl, ?_⟩) hHeld ?_
    rotate_left
    · (intro w hSw; (try dsimp only at hSw); go_simp; try with_reducible rfl)
    simp only [Act.put, List.setIfInBounds_toArray, List.set_cons_zero, List.set_cons_succ]
    refine wpLate_take (i := 6) (v := ?_) rfl (by kernel_rfl) (fun _ _ _ h => h) (Or.inl ⟨by rfl, ?_⟩) hHeld ?_
    rotate_left
    · (intro w hSw; (try dsimp only at hSw); go_simp; try with_reducible rfl)
    simp only [Act.put, List.setIfInBounds_toArray, List.set_cons_zero, List.set_cons_succ]
    refine wpLate_take (i := 7) (v := ?_) rfl (by kernel_rfl) (fun _ _ _ h => h) (Or.inl ⟨by rfl, ?_⟩) hHeld ?_
    rotate_left
    · (intro w hSw; (try dsimp only at hSw); go_simp; try with_reducible rfl)
    simp only [Act.put, List.setIfInBounds_toArray, List.set_cons_zero, List.set_cons_succ]
    refine wpLate_take (i := 8) (v := ?_) rfl (by kernel_rfl) (fun _ _ _ h => h) (Or.inl ⟨by rfl, ?_⟩) hHeld ?_
    rotate_left
    · (intro w hSw; (try dsimp only at hSw); go_simp; try with_reducible rfl)
    simp only [Act.put, List.setIfInBounds_toArray, List.set_cons_zero, List.set_cons_succ]
    refine wpLate_last (by kernel_rfl) rfl (by kernel_rfl) (fun K hK => ?_)
    go_simp
    refine hK.out _ _ ?_
    clear hK K
    have h4 := h3.out.out i (bh + V - x)
    obtain ⟨W4, hW4⟩ : ∃ W4, (W3.setCell ⟨B + 1, i, none⟩ (.int .i64 (bh + V - x))).drew = W4 := ⟨_, rfl⟩
    rw [hW4]
    have h4w : Wst W4 B n (some ⟨db, dO, none⟩) cap L (.slice (some ⟨g, 0, none⟩) (r.length + 1) cl) (bh + V) ((e, x) :: r) (out.set i (bh + V - x)) := by rw [← hW4]; exact h4.1.drew
    have hq4 : Below B W3 W4 := by rw [← hW4]; exact h4.2.drew
    have h5 := h4w.next (bh + V)
    have u2 := h4w.kb.cell 0
    obtain ⟨u0, u1, u4⟩ := h4w.topc
    simp at u2
    rw [hT'.out] at u0 u1 u4 h5
    clear hW4 h4
    replace h4w := Lib.hid h4w; replace h5 := Lib.hid h5; replace hq4 := Lib.hid hq4
    go_wp2_with fail
    first | go_end0 | refine bodyPost_ret (results_none rfl _ _ _) rfl ?_
    exact ⟨rfl, ⟨_, h5.out.1⟩, (hq3.out.trans hq4.out).trans h5.out.2⟩
  have hk7 : ((k : Int) == 7) = false := by simp; omega
  have hk6 : ((k : Int) == 6) = false := by simp; omega
  have hk3 : ((k : Int) == 3) = false := by simp; omega
  by_cases k45 : k = 4 ∨ k = 5
  · have e1 := hRL.out
    have e2 := hRO.out
    rw [show wLv ⟨k, t, bb, dn, de⟩ bh (bh + V) e x r = (e, bh + V) :: r by simp [wLv, k7, k6, k3, k45]] at e1
    rw [show wOut ⟨k, t, bb, dn, de⟩ i bh (bh + V) e x out = out by simp [wOut, k6, k3]] at e2
    subst e1; subst e2
    clear hRL hRO
    have h5 := h3.out.next (bh + V)
    rw [hT'.out] at h5
    replace h5 := Lib.hid h5
    rcases k45 with k4 | k4
    · subst k4
      go_wp2_with fail
      first | go_end0 | refine bodyPost_ret (results_none rfl _ _ _) rfl ?_
      exact ⟨rfl, ⟨_, h5.out.1⟩, hq3.out.trans h5.out.2⟩
    · subst k4
      go_wp2_with fail
      first | go_end0 | refine bodyPost_ret (results_none rfl _ _ _) rfl ?_
      exact ⟨rfl, ⟨_, h5.out.1⟩, hq3.out.trans h5.out.2⟩
  have hk4 : ((k : Int) == 4) = false := by simp; omega
  have hk5 : ((k : Int) == 5) = false := by simp; omega
  have e1 := hRL.out
  have e2 := hRO.out
  rw [show wLv ⟨k, t, bb, dn, de⟩ bh (bh + V) e x r = (e, x) :: r by simp [wLv, k7, k6, k3, k45]] at e1
  rw [show wOut ⟨k, t, bb, dn, de⟩ i bh (bh + V) e x out = out by simp [wOut, k6, k3]] at e2
  subst e1; subst e2
  clear hRL hRO
  go_wp2_with fail
  first | go_end0 | refine bodyPost_ret (results_none rfl _ _ _) rfl ?_
  exact ⟨rfl, ⟨_, h3.out⟩, hq3.out⟩
end Go.Proofs.YtphcmbdmkhmfbaaDoor
namespace Go.Proofs.YtphcmbdmkhmfbaaDoor
open Go.RowKit Go.Lib
set_option linter.unusedVariables false
set_option linter.unusedSimpArgs false
structure Ws where
  bh : Int
  lv : List (Int × Int)
  out : List Int
def wNext (d : DocV) (s : Ws) : Ws :=
  match s.lv with
  | [] => ⟨s.bh + wideAs 1048576 d, [], 0 :: s.out⟩
  | (e, x) :: q => ⟨s.bh + wideAs 1048576 d, wLv d s.bh (s.bh + wideAs 1048576 d) e x q, (if d.k = 6 then s.bh - e else if d.k = 3 then s.bh + wideAs 1048576 d - x else 0) :: s.out⟩
theorem wNext_cons (d : DocV) (s : Ws) (e x : Int) (q : List (Int × Int)) (h : s.lv = (e, x) :: q) : wNext d s = ⟨s.bh + wideAs 1048576 d, wLv d s.bh (s.bh + wideAs 1048576 d) e x q, (if d.k = 6 then s.bh - e else if d.k = 3 then s.bh + wideAs 1048576 d - x else 0) :: s.out⟩ := by
  unfold wNext; rw [h]
/-- What stands behind the pieces, told from the end. -/
def wRun : List DocV → Ws
  | [] => ⟨0, [(0, 0)], []⟩
  | d :: r => wNext d (wRun r)
def depth : List DocV → Int
  | [] => 0
  | d :: r => opens d + depth r
/-- All pieces are right, and no block is left open at its end. -/
theorem formAt_ok : ∀ (L : List DocV) (i : Nat) (o : Int), 0 ≤ o → formAt L i o = -1 → (∀ d ∈ L, rightB d = true) ∧ o + depth L = 0
  | [], i, o, h0, h => by
    unfold formAt at h
    split at h
    · omega
    · refine ⟨by simp, ?_⟩; simp [depth]; omega
  | d :: r, i, o, h0, h => by
    unfold formAt at h
    split at h
    · omega
    · rename_i hn
      have hr : rightB d = true := by
        cases hh : rightB d
        · exact absurd (.inl hh) hn
        · rfl
      have h7 : ¬ (d.k = 7 ∧ o = 0) := fun e => hn (.inr e)
      have ho : 0 ≤ o + opens d := by unfold opens; split <;> (try split) <;> omega
      obtain ⟨h1, h2⟩ := formAt_ok r (i + 1) (o + opens d) ho h
      exact ⟨by intro x hx; rcases List.mem_cons.1 hx with rfl | hx; exact hr; exact h1 x hx, by simp [depth]; omega⟩
theorem formAt_tail : ∀ (L : List DocV) (i : Nat) (o : Int) (j : Nat), 0 ≤ o → formAt L i o = -1 → 0 ≤ - depth (L.drop j)
  | [], i, o, j, h0, h => by simp [depth]
  | d :: r, i, o, 0, h0, h => by have := (formAt_ok _ i o h0 h).2; simp only [List.drop_zero]; omega
  | d :: r, i, o, j + 1, h0, h => by
    unfold formAt at h
    split at h
    · omega
    · rename_i hn
      have h7 : ¬ (d.k = 7 ∧ o = 0) := fun e => hn (.inr e)
      have ho : 0 ≤ o + opens d := by unfold opens; split <;> (try split) <;> omega
      simpa using formAt_tail r (i + 1) (o + opens d) j ho h
theorem wide_ok (d : DocV) (h : rightB d = true) : 0 ≤ wideAs 1048576 d ∧ wideAs 1048576 d ≤ 2097152 ∧ d.t.size ≤ 65536 ∧ (0 ≤ d.b ∧ d.b ≤ 1000) ∧ (0 ≤ d.n ∧ d.n ≤ 1000) := by
  have hw := wid_le d.t.data.toList
  have hs : d.t.data.toList.length = d.t.size := Array.length_toList
  unfold rightB at h
  unfold wideAs
  split at h
  · simp only [Bool.and_eq_true, decide_eq_true_eq] at h
    rename_i h1
    simp only [h1, if_true]
    split <;> omega
  · split at h
    · simp only [Bool.and_eq_true, decide_eq_true_eq] at h
      rename_i h1 h2
      simp only [h2]
      simp; omega
    · split at h
      · simp only [Bool.and_eq_true, decide_eq_true_eq] at h
        rename_i h1 h2 h3
        simp only [h3]; simp; omega
      · split at h
        · simp only [decide_eq_true_eq] at h
          rename_i h1 h2 h3 h4
          split <;> (try split) <;> (try split) <;> (try split) <;> omega
        · cases h
theorem wRun_ok : ∀ (L : List DocV), (∀ d ∈ L, rightB d = true) → (∀ j, 0 ≤ - depth (L.drop j)) →
    (wRun L).out.length = L.length ∧ ((wRun L).lv.length : Int) = 1 - depth L ∧ 0 ≤ (wRun L).bh ∧ (wRun L).bh ≤ 2097152 * L.length ∧ (∀ p ∈ (wRun L).lv, 0 ≤ p.1 ∧ p.1 ≤ (wRun L).bh ∧ 0 ≤ p.2 ∧ p.2 ≤ (wRun L).bh)
  | [], _, _ => by simp [wRun, depth]
  | d :: r, hr, hd => by
    obtain ⟨h1, h2, h3, h4, h5⟩ := wRun_ok r (fun x hx => hr x (by simp [hx])) (fun j => by simpa using hd (j + 1))
    have hw := wide_ok d (hr d (by simp))
    have hd0 := hd 0
    have hd1 := hd 1
    simp only [List.drop_zero, depth, List.drop_succ_cons] at hd0 hd1
    rw [show wRun (d :: r) = wNext d (wRun r) from rfl]
    cases hl : (wRun r).lv with
    | nil => rw [hl] at h2; simp at h2; omega
    | cons p q =>
      obtain ⟨e, x⟩ := p
      rw [hl] at h2 h5
      simp only [List.length_cons] at h2
      rw [wNext_cons d _ e x q hl]
      have hp := h5 (e, x) (by simp)
      have hq := fun p (hp : p ∈ q) => h5 p (by simp [hp])
      simp only at hp
      simp only [List.length_cons, h1, true_and, depth]
      refine ⟨?_, by omega, by omega, ?_⟩
      · unfold wLv opens
        unfold opens at hd0
        by_cases k7 : d.k = 7
        · simp [k7] at hd0 ⊢; omega
        · by_cases k6 : d.k = 6
          · simp [k6] at hd0 ⊢; omega
          · simp only [k7, k6, if_false] at hd0 ⊢; split <;> simp only [List.length_cons] <;> omega
      · intro p hp'
        unfold wLv at hp'
        have hb := hw.1
        by_cases k7 : d.k = 7
        · rw [if_pos k7] at hp'
          rcases List.mem_cons.1 hp' with rfl | hp'
          · simp; omega
          · rcases List.mem_cons.1 hp' with rfl | hp'
            · simp; omega
            · have := hq p hp'; omega
        · rw [if_neg k7] at hp'
          by_cases k6 : d.k = 6
          · rw [if_pos k6] at hp'
            have := hq p hp'; omega
          · rw [if_neg k6] at hp'
            split at hp'
            · rcases List.mem_cons.1 hp' with rfl | hp'
              · simp; omega
              · have := hq p hp'; omega
            · rcases List.mem_cons.1 hp' with rfl | hp'
              · simp; omega
              · have := hq p hp'; omega
theorem make_at {P : Program} (w : World) {ops : Array Oper} {rest : List Oper} {o : Oper} {a : Act} {Q : Exit → Act → World → Prop} (hg : o.guard = none) (l c : Operand) (t : TypeId) (hop : o.op = Op.makeSlice t l c)
    (base : Nat) (e : TypeId) {z : Value} {size bytes : Nat} (ht : P.underlying t = some (.slice e)) (hinf : (P.info? e).map (fun i => (i.zero, i.size, i.bytes)) = some (some z, size, bytes)) (hzs : z.cells.size = size)
    (kl kc : IntKind) (n : Nat) (hl : a.eval l = .int kl n) (hc : a.eval c = .int kc n) (b2 : bytes * n ≤ 281474976710656) (b3 : n ≤ 4611686018427387904) (b4 : base ≤ w.heap.size)
    (hK : (w.alloc (.cells (madeCells z.cells (n * size)) e)).ownsRow base e size (.slice (some ⟨w.heap.size, 0, none⟩) n n) n (madeCells z.cells (n * size)).toList → wpList P ops Q rest (a.put o.dst (.slice (some ⟨w.heap.size, 0, none⟩) n n)) (w.alloc (.cells (madeCells z.cells (n * size)) e))) :
    wpList P ops Q (o :: rest) a w := by
  refine wpList_plain hg fun K hK' => ?_
  obtain ⟨i, hi, hz0, hz1, hz2⟩ := info_parts hinf
  have hb3 : (n : Int) ≤ 9223372036854775807 := by omega
  have hb2 : (i.bytes : Int) * (n : Int) ≤ 281474976710656 := by
    have h : ((i.bytes * n : Nat) : Int) ≤ 281474976710656 := by rw [hz2]; omega
    rwa [Int.natCast_mul] at h
  have hrun := run_make (P := P) (w := w) t e i z ht hi hz0 kl kc (n : Int) (n : Int) (by omega) (Int.le_refl _) hb2 hb3
  simp only [Int.toNat_natCast, hz1] at hrun
  unfold Oper.wp
  simp [execOp, hop, hl, hc, hrun, Result.andThen]
  exact hK' _ _ (hK (World.ownsRow_lit w _ n b4 (by unfold maxLen; omega) (size_madeCells _ _)))
theorem wRun_out_len (L : List DocV) (h : (∀ d ∈ L, rightB d = true) ∧ ∀ j, 0 ≤ - depth (L.drop j)) : (wRun L).out.length = L.length := (wRun_ok L h.1 h.2).1
theorem depth_ge : ∀ (L : List DocV), -(L.length : Int) ≤ depth L
  | [] => by simp [depth]
  | d :: r => by have := depth_ge r; simp only [depth, List.length_cons]; unfold opens; split <;> (try split) <;> omega
theorem blk_at {w : World} {b b' : Nat} {cs : Array Value} {t : TypeId} (h : Blk w b cs t) (e : b = b') : Blk w b' cs t := e ▸ h
set_option maxHeartbeats 4000000 in
set_option maxRecDepth 100000 in
theorem whole_widths (ao : Option Addr) (cap : Nat) (L : List DocV) (w : World) (hL : Docs w ao L) (hl : L.length ≤ 2097152) (hT : Tabs w) (hg1 : 0 < w.heap.size) (hg2 : 1 < w.heap.size) (hr : ∀ d ∈ L, rightB d = true) (hd : ∀ j, 0 ≤ - depth (L.drop j)) :
    Calls Tryd.prog 52 #[.slice ao L.length cap] w fun e w' => (∃ B : Nat, e = .returned (.slice (some ⟨B, 0, none⟩) L.length L.length) ∧ ∀ (i : Nat) (v : Int), (wRun L).out[i]? = some v → w'.cell? ⟨B, i, none⟩ = some (.int .i64 v)) ∧ Below w.heap.size w w' := by
  have hlow : ∀ b o, ao = some ⟨b, o, none⟩ → 0 < L.length → b < w.heap.size := fun b o e h => by
    obtain ⟨d, hd⟩ : ∃ d, L[0]? = some d := ⟨_, List.getElem?_eq_getElem h⟩
    obtain ⟨b', o', e', h0, _⟩ := hL 0 d hd
    rw [e] at e'; cases e'
    exact cell_lt h0
  replace hL := Lib.hid hL; replace hT := Lib.hid hT; replace hr := Lib.hid hr; replace hd := Lib.hid hd; replace hlow := Lib.hid hlow
  go_enter Tryd.func52, Tryd.ntmps52
  go_wp2_with (refine make_at _ rfl (.tmp 9) (.tmp 9) 56 rfl w.heap.size 3 Tryd.underlying56 infoI rfl .i64 .i64 L.length rfl rfl (by omega) (by omega) (by simp) ?_; intro hro)
  simp only [Nat.add_assoc, Nat.reduceAdd]
  generalize hW6 : World.alloc _ _ = W6
  have hz : (madeCells #[Value.int IntKind.i64 0] L.length).toList = List.replicate L.length (.int .i64 0) := toList_madeCells_one _ _
  have hst : Wst W6 w.heap.size L.length ao cap L (.slice (some ⟨w.heap.size + 4, 0, none⟩) 1 1) 0 [(0, 0)] (List.replicate L.length 0) ∧ Below w.heap.size w W6 := by
    rw [← hW6]
    refine ⟨⟨?_, ?_, ?_, ?_, ?_, ?_, ?_⟩, ?_⟩
    · exact (((((Blk.new w _ _).alloc _).alloc _).alloc _).alloc _).alloc _
    · have h1 := World.ownsRow_lit (e := 3) (size := 1) (base := w.heap.size) (w.alloc (.cells #[.slice ao L.length cap] 44)) (madeCells #[Value.int IntKind.i64 0] L.length) L.length (by simp) (by unfold maxLen; omega) (by rw [size_madeCells]; omega)
      rw [hz] at h1
      have h2 := ((((h1.alloc (.cells #[.slice (some ⟨w.heap.size + 1, 0, none⟩) L.length L.length] 56)).alloc (.cells #[.int .i64 0] 3)).alloc (.cells #[.int .i64 0, .int .i64 0] TL)).alloc (.cells #[.slice (some ⟨w.heap.size + 4, 0, none⟩) 1 1] 108))
      simpa using h2
    · exact blk_at ((((Blk.new _ _ _).alloc _).alloc _).alloc _) (by simp)
    · exact blk_at (((Blk.new _ _ _).alloc _).alloc _) (by simp)
    · have h1 := World.ownsRow_lit (e := TL) (size := 2) (base := w.heap.size) ((((w.alloc (.cells #[.slice ao L.length cap] 44)).alloc (.cells (madeCells #[Value.int IntKind.i64 0] L.length) 3)).alloc (.cells #[.slice (some ⟨w.heap.size + 1, 0, none⟩) L.length L.length] 56)).alloc (.cells #[.int .i64 0] 3)) #[.int .i64 0, .int .i64 0] 1 (by simp; omega) (by unfold maxLen; omega) rfl
      have h2 := h1.alloc (.cells #[.slice (some ⟨w.heap.size + 4, 0, none⟩) 1 1] 108)
      simpa [lvRow] using h2
    · intro k hk
      have : w.heap.size + 4 = k := by simpa [Value.ownBlock] using hk
      exact .inl this.symm
    · exact blk_at (Blk.new _ _ _) (by simp)
    · exact ((((((Below.refl _ _).alloc (Nat.le_refl _) _).alloc (by simp) _).alloc (by simp; omega) _).alloc (by simp; omega) _).alloc (by simp; omega) _).alloc (by simp; omega) _
  go_loopw [7] (fun iv W => ∃ (j : Nat) (vl : Value), iv = .int .i64 ((j : Int) - 1) ∧ j ≤ L.length ∧ Hid (Wst W w.heap.size L.length ao cap L vl (wRun (L.drop j)).bh (wRun (L.drop j)).lv (List.replicate j 0 ++ (wRun (L.drop j)).out)) ∧ Below w.heap.size w W) (fun iv _ => (RowKit.intOf iv + 1).toNat)
  case atStart => exact ⟨L.length, _, rfl, Nat.le_refl _, Lib.hid (by simpa [wRun] using hst.1), hst.2⟩
  case round =>
    obtain ⟨j, vl, rfl, hj, hS, hb⟩ := hrel
    replace hb := Lib.hid hb
    clear hst hW6 hz
    cases j with
    | zero =>
      have e0 : (((0 : Nat) : Int) - 1) = -1 := by omega
      rw [e0]
      have u1 := hS.out.ko.cell 0
      simp at u1
      have hfin : ∀ (i : Nat) (v : Int), (wRun L).out[i]? = some v → wr.cell? ⟨w.heap.size + 1, i, none⟩ = some (.int .i64 v) := fun i v hv => by
        have hro := hS.out.ro
        simp only [List.drop_zero, List.replicate_zero, List.nil_append] at hro
        have hlt := (List.getElem?_eq_some_iff.1 hv).1
        rw [(wRun_ok L hr.out hd.out).1] at hlt
        rw [World.ownsRow.cellAt hro i (by omega), List.getElem?_map, hv]; rfl
      replace hfin := Lib.hid hfin
      go_wp2_with fail
      go_ret
      exact ⟨⟨_, rfl, hfin.out⟩, hb.out⟩
    | succ i =>
      rw [show ((i + 1 : Nat) : Int) - 1 = (i : Int) by omega]
      obtain ⟨d, hdi⟩ : ∃ d, L[i]? = some d := ⟨_, List.getElem?_eq_getElem (by omega)⟩
      have hdr : L.drop i = d :: L.drop (i + 1) := by
        have := List.drop_eq_getElem_cons (show i < L.length by omega)
        rw [List.getElem?_eq_getElem (by omega)] at hdi
        rw [this, Option.some.inj hdi]
      have hok := wRun_ok (L.drop (i + 1)) (fun x hx => hr.out x (List.mem_of_mem_drop hx)) (fun j => by rw [List.drop_drop]; exact hd.out _)
      have hdd := hd.out (i + 1)
      obtain ⟨o1, o2, o3, o4, o5⟩ := hok
      rw [List.length_drop] at o1 o4
      have hmem : d ∈ L := List.mem_of_getElem? hdi
      have hw := wide_ok d (hr.out d hmem)
      obtain ⟨e, x, q, hlv⟩ : ∃ e x q, (wRun (L.drop (i + 1))).lv = (e, x) :: q := by
        cases hl : (wRun (L.drop (i + 1))).lv with
        | nil => rw [hl] at o2; simp at o2; omega
        | cons p q => exact ⟨p.1, p.2, q, rfl⟩
      have hx := o5 (e, x) (by rw [hlv]; simp)
      have hq : (q.length : Int) ≤ L.length := by
        have h1 := hd.out (i + 1)
        have h2 := depth_ge (L.drop (i + 1))
        rw [hlv] at o2
        rw [List.length_drop] at h2
        simp at o2; omega
      simp only at hx
      have hn := wNext_cons d _ e x q hlv
      rw [hlv] at hS
      have hlow' : ∀ b o, ao = some ⟨b, o, none⟩ → b < w.heap.size := fun b o e => hlow.out b o e (by omega)
      have hc := wst_step w.heap.size L.length i ao cap L vl _ e x q _ d wr hS.out (hL.out.below hb.out) hlow' hdi rfl hl ((hT.out.below hb.out)) (by omega) hw.2.2.2.1 ⟨o3, by omega⟩ ⟨hx.1, hx.2.1⟩ ⟨hx.2.2.1, hx.2.2.2⟩ (by omega)
      have hrep : wOut d i (wRun (L.drop (i + 1))).bh ((wRun (L.drop (i + 1))).bh + wideAs 1048576 d) e x (List.replicate (i + 1) 0 ++ (wRun (L.drop (i + 1))).out) = List.replicate i 0 ++ (wNext d (wRun (L.drop (i + 1)))).out := by
        rw [hn]
        have h1 : ∀ v : Int, (List.replicate (i + 1) (0 : Int) ++ (wRun (L.drop (i + 1))).out).set i v = List.replicate i 0 ++ v :: (wRun (L.drop (i + 1))).out := fun v => by
          rw [List.replicate_succ', List.append_assoc, List.set_append_right _ _ (by simp)]; simp
        unfold wOut
        split
        · rename_i h6; rw [h1]; try simp [h6]
        · split
          · rename_i h6 h3; rw [h1]; try simp [h3]
          · rename_i h6 h3; simp only [h6, h3, if_false]
            rw [List.replicate_succ', List.append_assoc]; rfl
      have hnext : ∀ W v, Wst W w.heap.size L.length ao cap L v ((wRun (L.drop (i + 1))).bh + wideAs 1048576 d) (wLv d (wRun (L.drop (i + 1))).bh ((wRun (L.drop (i + 1))).bh + wideAs 1048576 d) e x q) (wOut d i (wRun (L.drop (i + 1))).bh ((wRun (L.drop (i + 1))).bh + wideAs 1048576 d) e x (List.replicate (i + 1) 0 ++ (wRun (L.drop (i + 1))).out)) →
          Wst W w.heap.size L.length ao cap L v (wRun (L.drop i)).bh (wRun (L.drop i)).lv (List.replicate i 0 ++ (wRun (L.drop i)).out) := fun W v h => by
        rw [hrep] at h
        rw [hdr]
        rw [show wRun (d :: L.drop (i + 1)) = wNext d (wRun (L.drop (i + 1))) from rfl]
        rw [hn] at h ⊢
        exact h
      have hw1 : IntKind.i64.wrap ((i : Int) - 1) = i - 1 := IntWalk.i64_in _ (by omega)
      replace hc := Lib.hid hc; replace hnext := Lib.hid hnext
      clear hrep hn hlv hdi hdr o1 o2 o3 o4 o5 hx hq hmem hw hdd hlow'
      go_wp2_with fail
      refine hc.out.mono ?_
      rintro e' w2 ⟨rfl, ⟨vl', hS2⟩, b2⟩
      have hb2 := hb.out.trans b2
      have hS3 := Lib.hid (hnext.out _ _ hS2)
      replace hb2 := Lib.hid hb2
      clear hS2 b2 hnext hc
      go_wp2_with fail
      exact ⟨⟨i, vl', rfl, by omega, hS3, hb2.out⟩, by simp [RowKit.intOf]⟩
end Go.Proofs.YtphcmbdmkhmfbaaDoor
