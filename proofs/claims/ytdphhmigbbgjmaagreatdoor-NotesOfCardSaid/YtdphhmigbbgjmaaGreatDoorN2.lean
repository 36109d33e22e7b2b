/- notes.Strip where the source is good: the source without its comments, under a check on where these stand. Conditions: as NotA says. notes.Strip where the source is good: the walk. Conditions: as NotA says; a check on where the comments stand. Comments: the program's list is the reference's. Plain Lean; rows of comments as the print has them. The closed sentence of package colophonlaw19: two small sources. Conditions: the tables of package class lie as laid. The law NotesOf, walked over the callees' contracts. Conditions: the tables of package class lie as laid, and the handle of the type error. -/
import Derived.Test.YtdphhmigbbgjmaaGreatDoorN1
import Derived.Test.YtdphhmigbbgjmaaGreatDoorSnk
import Derived.Test.YtdphhmigbbgjmaaGreatDoorBuild
import Derived.Test.YtdphhmigbbgjmaaGreatDoorNotK
import Derived.Test.YtdphhmigbbgjmaaGreatDoorM6
import Derived.Test.YtdphhmigbbgjmaaGreatDoorN3
section
namespace Go.Proofs.YtdphhmigbbgjmaaGreatDoor
open Go.RowKit Go.Lib Go.Shelf
open PScan
open Go.Proofs.YtdphhmigbbgjmaaGreatDoorW.PrintWords
set_option linter.unusedVariables false
attribute [local go_sem] Oper.semAt_some
abbrev TB : TypeId := 62
abbrev TU : TypeId := 5
/-- Up to where a source has been taken over, and what was. -/
def stF (s : ByteArray) (p : Nat × Bs) (t : Tk) : Nat × Bs :=
  if t.note then (t.a.toNat + t.s.size, p.2 ++ (cutS s p.1 t.a.toNat).data.toList ++ (if t.k = 8 then [32] else [])) else p
def stG (s : ByteArray) (l : List Tk) : Nat × Bs := l.foldl (stF s) (0, [])
theorem stG_snoc (s : ByteArray) (l : List Tk) (t : Tk) : stG s (l ++ [t]) = stF s (stG s l) t := by unfold stG; rw [List.foldl_append]; rfl
def okF (s : ByteArray) (p : Nat × Bs) (t : Tk) : Bool := !t.note || (decide (0 ≤ t.a) && decide (p.1 ≤ t.a.toNat) && decide (t.a.toNat ≤ s.size) && decide (t.a.toNat + t.s.size ≤ s.size) && decide (p.2.length ≤ 1099511627776))
def okG (s : ByteArray) : Nat × Bs → List Tk → Bool
  | p, [] => decide (p.1 ≤ s.size) && decide (p.2.length ≤ 1099511627776)
  | p, t :: r => okF s p t && okG s (stF s p t) r
theorem okG_at (s : ByteArray) : ∀ (l : List Tk) (p : Nat × Bs), okG s p l = true → (∀ pre t r, l = pre ++ t :: r → okF s (pre.foldl (stF s) p) t = true) ∧ (l.foldl (stF s) p).1 ≤ s.size ∧ (l.foldl (stF s) p).2.length ≤ 1099511627776
  | [], p, h => by
    simp only [okG, Bool.and_eq_true, decide_eq_true_eq] at h
    exact ⟨fun pre t r e => by simp at e, h.1, h.2⟩
  | x :: l, p, h => by
    simp only [okG, Bool.and_eq_true] at h
    obtain ⟨h1, h2, h3⟩ := okG_at s l _ h.2
    refine ⟨fun pre t r e => ?_, h2, h3⟩
    cases pre with
    | nil => simp only [List.nil_append, List.cons.injEq] at e; rw [← e.1]; exact h.1
    | cons y pre => simp only [List.cons_append, List.cons.injEq] at e; rw [← e.1]; exact h1 pre t r e.2
/-- The builder in memory: its row lies in none of the loop's own blocks. -/
def BdI (H : Nat) (l : Bs) (W : World) : Prop := ∃ p v, (p = .pointer none ∨ p = .pointer (some ⟨H - 3, 0, none⟩)) ∧ W.heap[H - 3]? = some (.cells #[p, v] TB (0, 0)) ∧ W.ownsRowF (H - 3) TU 1 v (Lib.byteCells l).length (Lib.byteCells l) ∧ v.ownBlock ≠ some (H - 3) ∧ v.ownBlock ≠ some H ∧ v.ownBlock ≠ some (H + 1)
theorem BdI.is {H : Nat} {l : Bs} {W : World} (h : BdI H l W) : Lib.IsBuilderF TB TU (H - 3) (H - 3) (Lib.byteCells l) W := by
  obtain ⟨p, v, hp, hb, hr, hn, _⟩ := h
  rcases hp with rfl | rfl
  · exact .inl ⟨Nat.le_refl _, v, hb, hr, hn⟩
  · exact .inr ⟨Nat.le_refl _, v, hb, hr, hn⟩
theorem rowF_same {W W' : World} {B : Nat} {e : TypeId} {v : Value} {n : Nat} {xs : List Value} (h : W.ownsRowF B e 1 v n xs) (k : ∀ g, v.ownBlock = some g → W'.heap[g]? = W.heap[g]?) : W'.ownsRowF B e 1 v n xs := by
  refine ⟨h.1, ?_⟩
  rcases h.2 with hn | ⟨g, cap, cur, fz, hv, hb, hg, rest⟩
  · exact .inl hn
  · exact .inr ⟨g, cap, cur, fz, hv, hb, (k g (by rw [hv]; rfl)).trans hg, rest⟩
theorem BdI.sm {H : Nat} {l : Bs} {W W' : World} (h : BdI H l W) (k : Sm H W W') (hH : 3 ≤ H) : BdI H l W' := by
  obtain ⟨p, v, hp, hb, hr, h1, h2, h3⟩ := h
  refine ⟨p, v, hp, (k.same _ (Array.getElem?_eq_some_iff.1 hb).1 (by omega) (by omega)).trans hb, rowF_same hr (fun g hg => ?_), h1, h2, h3⟩
  exact k.same g (hr.lt g hg).2 (fun e => h2 (by rw [hg, e])) (fun e => h3 (by rw [hg, e]))
/-- What the caller knows between two comments. -/
structure StI (w : World) (H : Nat) (v : Value) (ra : Option Addr) (L : List Tk) (s : ByteArray) (an : Nat) (l : Bs) (W : World) : Prop where
  lo : Below w.heap.size w W
  bx : Blk W w.heap.size #[.string s] 9
  bd : BdI H l W
  at' : Blk W (H - 2) #[.int .i64 an] 3
  cv : Blk W (H - 1) #[v] 42
  row : ∀ i (hi : i < L.length), ∃ g, ra = some ⟨g, 0, none⟩ ∧ g < H - 3 ∧ W.cell? ⟨g, i * 6, none⟩ = some (.int .u8 L[i].k) ∧ W.cell? ⟨g, i * 6 + 1, none⟩ = some (.string L[i].s) ∧ W.cell? ⟨g, i * 6 + 2, none⟩ = some (.int .i64 L[i].a) ∧ W.cell? ⟨g, i * 6 + 3, none⟩ = some (.int .i64 L[i].l) ∧ W.cell? ⟨g, i * 6 + 4, none⟩ = some (.int .i64 L[i].c) ∧ W.cell? ⟨g, i * 6 + 5, none⟩ = some (.int .i64 L[i].f)
  rt : ∀ g, ra = some ⟨g, 0, none⟩ → ∃ cs, W.heap[g]? = some (.cells cs 48 (0, 0))
theorem StI.sm {w : World} {H : Nat} {v : Value} {ra : Option Addr} {L : List Tk} {s : ByteArray} {an : Nat} {l : Bs} {W W' : World} (hH : w.heap.size + 4 ≤ H) (h : StI w H v ra L s an l W) (k : Sm H W W') (hrg : ∀ g, ra = some ⟨g, 0, none⟩ → g < H - 3) : StI w H v ra L s an l W' := by
  have hc : ∀ p : Addr, p.block < H → W.cell? p ≠ none → W'.cell? p = W.cell? p := fun p hp hn => by
    have hlt : p.block < W.heap.size := by
      rcases Nat.lt_or_ge p.block W.heap.size with h | h
      · exact h
      · exact absurd (by simp [World.cell?, Array.getElem?_eq_none h]) hn
    unfold World.cell?; rw [k.same p.block hlt (by omega) (by omega)]
  refine ⟨below_sm h.lo k (by omega) (Nat.le_refl _), h.bx.sm k (by omega), h.bd.sm k (by omega), h.at'.sm k (by omega), h.cv.sm k (by omega), fun i hi => ?_, fun g hg => ?_⟩
  · obtain ⟨g, e, hg, c0, c1, c2, c3, c4, c5⟩ := h.row i hi
    have q := fun (j : Nat) (u : Value) (hu : W.cell? ⟨g, j, none⟩ = some u) => (hc ⟨g, j, none⟩ (by show g < H; omega) (by rw [hu]; exact fun h => by cases h)).trans hu
    exact ⟨g, e, hg, q _ _ c0, q _ _ c1, q _ _ c2, q _ _ c3, q _ _ c4, q _ _ c5⟩
  · obtain ⟨cs, hcs⟩ := h.rt g hg
    exact ⟨cs, (k.same g (Array.getElem?_eq_some_iff.1 hcs).1 (by have := hrg g hg; omega) (by have := hrg g hg; omega)).trans hcs⟩
theorem cell_of {w w' : World} {b : Nat} (h : w'.heap[b]? = w.heap[b]?) {o : Nat} {u : Value} (hu : w.cell? ⟨b, o, none⟩ = some u) : w'.cell? ⟨b, o, none⟩ = some u := by
  unfold World.cell? at hu ⊢; rw [h]; exact hu
/-- Bytes were written into the builder. -/
theorem StI.wrote {w : World} {H : Nat} {v : Value} {ra : Option Addr} {L : List Tk} {s : ByteArray} {an : Nat} {l l' : Bs} {W W' : World} (hH : w.heap.size + 4 ≤ H) (h : StI w H v ra L s an l W) (hrg : ∀ g, ra = some ⟨g, 0, none⟩ → g < H - 3)
    (hob : ∀ k o, (k = H ∨ k = H + 1) → W.heap[k]? = some o → ∀ c e fz, o ≠ .cells c e fz) (hlt : H + 1 < W.heap.size)
    (hB : Lib.BuilderAtF TB TU (H - 3) (H - 3) (.pointer (some ⟨H - 3, 0, none⟩)) (Lib.byteCells l') W') (hb : Below (H - 3) W W') (ho : Lib.OthersKept TU (some (H - 3)) W W') :
    StI w H v ra L s an l' W' ∧ Kp H W W' ∧ (∀ k o, (k = H ∨ k = H + 1) → W'.heap[k]? = some o → ∀ c e fz, o ≠ .cells c e fz) ∧ H + 1 < W'.heap.size := by
  have kp : Kp H W W' := fun k hk => by
    have hk' : k < W.heap.size := by omega
    have hx := Array.getElem?_eq_getElem hk'
    rw [hx]
    exact ho k _ hx (by intro e; injection e with e; omega) (fun c fz e => hob k _ hk hx c TU fz e)
  have hob' : ∀ k o, (k = H ∨ k = H + 1) → W'.heap[k]? = some o → ∀ c e fz, o ≠ .cells c e fz := fun k o hk hx => by
    rw [kp k hk] at hx; exact hob k o hk hx
  have blk : ∀ {b : Nat} {cs : Array Value} {t : TypeId}, Blk W b cs t → b ≠ H - 3 → t ≠ TU → Blk W' b cs t := fun {b cs t} hb' hn ht => ho b _ hb' (by intro e; injection e with e; omega) (fun c fz e => by injection e with _ e _; exact ht e)
  obtain ⟨hb0, u, hu, hr, hn⟩ := hB
  have hsz := hb.size
  refine ⟨⟨h.lo.trans (hb.mono (by omega)), blk h.bx (by omega) (by decide), ⟨_, u, .inr rfl, hu, hr, hn, fun e => ?_, fun e => ?_⟩, blk h.at' (by omega) (by decide), blk h.cv (by omega) (by decide), fun i hi => ?_, fun g hg => ?_⟩, kp, hob', by omega⟩
  · rcases hr.2 with ⟨e1, _⟩ | ⟨g, cap, cur, fz, e1, _, hg, _⟩
    · rw [e1] at e; cases e
    · rw [e1] at e
      have : g = H := by simpa [Value.ownBlock] using e
      subst this
      exact hob' g _ (.inl rfl) hg _ _ _ rfl
  · rcases hr.2 with ⟨e1, _⟩ | ⟨g, cap, cur, fz, e1, _, hg, _⟩
    · rw [e1] at e; cases e
    · rw [e1] at e
      have : g = H + 1 := by simpa [Value.ownBlock] using e
      subst this
      exact hob' (H + 1) _ (.inr rfl) hg _ _ _ rfl
  · obtain ⟨g, e, hgl, c0, c1, c2, c3, c4, c5⟩ := h.row i hi
    have hk := hb.block g (by omega)
    exact ⟨g, e, hgl, cell_of hk c0, cell_of hk c1, cell_of hk c2, cell_of hk c3, cell_of hk c4, cell_of hk c5⟩
  · obtain ⟨cs, hcs⟩ := h.rt g hg
    exact ⟨cs, (hb.block g (hrg g hg)).trans hcs⟩
/-- The place up to which the source was taken over is turned. -/
theorem StI.turn {w : World} {H : Nat} {v : Value} {ra : Option Addr} {L : List Tk} {s : ByteArray} {an : Nat} {l : Bs} {W : World} (hH : w.heap.size + 4 ≤ H) (h : StI w H v ra L s an l W) (hrg : ∀ g, ra = some ⟨g, 0, none⟩ → g < H - 3) (a2 : Nat) : StI w H v ra L s a2 l (W.setCell ⟨H - 2, 0, none⟩ (.int .i64 a2)) ∧ Kp H W (W.setCell ⟨H - 2, 0, none⟩ (.int .i64 a2)) := by
  have o : ∀ k, k ≠ H - 2 → (W.setCell ⟨H - 2, 0, none⟩ (.int .i64 a2)).heap[k]? = W.heap[k]? := fun k hk => Below.heap_setCell W ⟨H - 2, 0, none⟩ _ k hk
  obtain ⟨p, u, hp, hb, hr, h1, h2, h3⟩ := h.bd
  have hd : ∀ g, u.ownBlock = some g → g ≠ H - 2 := fun g hg e => by
    rcases hr.2 with ⟨e1, _⟩ | ⟨g', cap, cur, fz, e1, _, hg', _⟩
    · rw [e1] at hg; cases hg
    · rw [e1] at hg
      have : g' = g := by simpa [Value.ownBlock] using hg
      subst this
      have h4 := h.at'
      unfold Blk at h4
      rw [← e, hg'] at h4
      injection h4 with h4
      injection h4 with _ h4 _
      exact absurd h4 (by decide)
  refine ⟨⟨h.lo.trans ((Below.refl _ _).setCell (by show _ ≤ H - 2; omega) _), (o _ (by omega)).trans h.bx, ⟨p, u, hp, (o _ (by omega)).trans hb, rowF_same hr (fun g hg => o g (hd g hg)), h1, h2, h3⟩, by simpa using h.at'.set 0 (.int .i64 a2), (o _ (by omega)).trans h.cv, fun i hi => ?_, fun g hg => ?_⟩, fun k hk => o k (by omega)⟩
  · obtain ⟨g, e, hgl, c0, c1, c2, c3, c4, c5⟩ := h.row i hi
    have hk := o g (by omega)
    exact ⟨g, e, hgl, cell_of hk c0, cell_of hk c1, cell_of hk c2, cell_of hk c3, cell_of hk c4, cell_of hk c5⟩
  · obtain ⟨cs, hcs⟩ := h.rt g hg
    exact ⟨cs, (o g (by have := hrg g hg; omega)).trans hcs⟩
end Go.Proofs.YtdphhmigbbgjmaaGreatDoor
end
section
namespace Go.Proofs.YtdphhmigbbgjmaaGreatDoor
open Go.RowKit Go.Lib Go.Shelf
open PScan
open Go.Proofs.YtdphhmigbbgjmaaGreatDoorW.PrintWords
set_option linter.unusedVariables false
attribute [local go_sem] Oper.semAt_some
theorem bc_app (a c : List UInt8) : Lib.byteCells (a ++ c) = Lib.byteCells a ++ Lib.byteCells c := by simp [Lib.byteCells]
theorem bc_len (a : List UInt8) : (Lib.byteCells a).length = a.length := by simp [Lib.byteCells]
theorem Kp.trans' {H : Nat} {X Y Z : World} (a : Kp H X Y) (b : Kp H Y Z) : Kp H X Z := fun k hk => (b k hk).trans (a k hk)
theorem ext_size (s : ByteArray) (a b : Nat) (h : b ≤ s.size) : (s.extract a b).size = b - a := by simp; omega
theorem tok_obj {w : World} {base : Nat} {ok : Nat → Prop} {ra : Option Addr} {cap n : Nat} {L : List S48} (h : Kd.R k48 48 w base ok (.slice ra n cap) L) (g : Nat) (hg : ra = some ⟨g, 0, none⟩) : ∃ cs, w.heap[g]? = some (.cells cs 48 (0, 0)) := by
  obtain ⟨_, inner, ho, _⟩ := h
  rcases ho.2 with ⟨he, h0⟩ | ⟨g', cap', cur, he, hB, hg', _⟩
  · injection he with e1 e2 e3
    rw [hg] at e1; cases e1
  · injection he with e1 e2 e3
    rw [hg] at e1
    injection e1 with e1
    injection e1 with e1
    exact ⟨cur, by rw [e1]; exact hg'⟩
set_option maxRecDepth 100000 in
set_option maxHeartbeats 16000000 in
theorem notes_Strip_ok (s : ByteArray) (hs : s.size ≤ 67108864) (h0 : (allV s).2.1 = 0) (hok : okG s (0, []) ((allV s).1.map tkOf) = true) (w : World) (hT : Clas w) :
    Calls Tryz.prog 9 #[.string s] w fun e w' => e = .returned (.tuple #[.string ⟨((stG s ((allV s).1.map tkOf)).2 ++ (cutS s (stG s ((allV s).1.map tkOf)).1 s.size).data.toList).toArray⟩, .nilIface]) ∧ Below w.heap.size w w' := by
  have hb0 : Below w.heap.size w (w.alloc (.cells #[.string s] 9)) := (Below.refl _ _).alloc (Nat.le_refl _) _
  have hA := notes_all_ok s hs h0 (w.alloc (.cells #[.string s] 9)) (hT.below hb0)
  have hLl := all_len s
  generalize (allV s).1 = L0 at *
  obtain ⟨hok1, hok2, hok3⟩ := okG_at s (L0.map tkOf) (0, []) hok
  clear h0 hT hok
  refine (callsIn_wide (n := 3)).1 ?_
  refine callsIn_of_wp_marks Tryz.func9 rfl trivial ?_ rfl
  simp only [Tryz.ntmps9, List.size_toArray, List.length_cons, List.length_nil, Nat.reduceAdd, Nat.reduceSub, Array.replicate_succ, Array.replicate_zero, List.push_toArray, List.append_toArray, List.nil_append, List.cons_append]
  gi_wp2_with (first | (refine ⟨trivial, ?_⟩; gi_at_call 13; refine (callsIn_wide.2 hA).mono ?_; rintro e w1 ⟨v, rfl, hR, hbb⟩; obtain ⟨ra, cap, rfl, hR1, hR2⟩ := Kd.R_reads hR) | (refine ⟨trivial, ?_⟩; gi_at_call 14; refine (callsIn_wide.2 (notes_comments _ _ _ _)).mono ?_; rintro e w2 ⟨rfl, hw⟩; rw [hw]; clear hw))
  have hz1 : w.heap.size + 1 ≤ w1.heap.size := by have := hbb.size; simpa using this
  have hb1 : Below w.heap.size w w1 := hb0.trans (hbb.mono (by simp))
  have hbx1 : Blk w1 w.heap.size #[.string s] 9 := (Blk.new w #[.string s] 9).below' hbb
  have hb3 := ((hb1.alloc hb1.size (.cells #[.pointer none, .slice none 0 0] TB)).alloc (by simp; omega) (.cells #[.int .i64 0] 3)).alloc (by simp; omega) (.cells #[.slice ra L0.length cap] 42)
  have hbw1 := (((Below.refl w1.heap.size w1).alloc (Nat.le_refl _) (.cells #[.pointer none, .slice none 0 0] TB)).alloc (by simp) (.cells #[.int .i64 0] 3)).alloc (by simp; omega) (.cells #[.slice ra L0.length cap] 42)
  have hbx := hbx1.below' hbw1
  have hbd := ((Blk.new w1 #[.pointer none, .slice none 0 0] TB).alloc (.cells #[.int .i64 0] 3)).alloc (.cells #[.slice ra L0.length cap] 42)
  have hat := (Blk.new (w1.alloc (.cells #[.pointer none, .slice none 0 0] TB)) #[.int .i64 0] 3).alloc (.cells #[.slice ra L0.length cap] 42)
  have hcv := Blk.new ((w1.alloc (.cells #[.pointer none, .slice none 0 0] TB)).alloc (.cells #[.int .i64 0] 3)) #[.slice ra L0.length cap] 42
  have hsz : (((w1.alloc (.cells #[.pointer none, .slice none 0 0] TB)).alloc (.cells #[.int .i64 0] 3)).alloc (.cells #[.slice ra L0.length cap] 42)).heap.size = w1.heap.size + 3 := by simp
  simp only [World.size_alloc] at hat hcv
  have hto := tok_obj hR
  have hrow := tok_row hR
  generalize (((w1.alloc (.cells #[.pointer none, .slice none 0 0] TB)).alloc (.cells #[.int .i64 0] 3)).alloc (.cells #[.slice ra L0.length cap] 42)) = W0 at *
  have hlen : (L0.map tkOf).length = L0.length := by simp
  have hrg : ∀ g, ra = some ⟨g, 0, none⟩ → g < W0.heap.size - 3 := fun g hg => by
    obtain ⟨cs, hcs⟩ := hto g hg
    have := (Array.getElem?_eq_some_iff.1 hcs).1; omega
  have hst : StI w W0.heap.size (.slice ra L0.length cap) ra (L0.map tkOf) s 0 [] W0 := by
    rw [hsz] at hrg ⊢
    refine ⟨hb3, hbx, ⟨.pointer none, .slice none 0 0, .inl rfl, hbd, World.ownsRowF_nil _ _ _ _, fun e => (by cases e), fun e => (by cases e), fun e => (by cases e)⟩, hat, hcv, fun i hi => ?_, fun g hg => ?_⟩
    · obtain ⟨g, e, hg, c0, c1, c2, c3, c4, c5⟩ := hrow i hi
      have q := fun (j : Nat) (u : Value) (hu : w1.cell? ⟨g, j, none⟩ = some u) => (hbw1.cell (p := ⟨g, j, none⟩) hg).trans hu
      exact ⟨g, e, by omega, q _ _ c0, q _ _ c1, q _ _ c2, q _ _ c3, q _ _ c4, q _ _ c5⟩
    · obtain ⟨cs, hcs⟩ := hto g hg
      exact ⟨cs, (hbw1.block g (Array.getElem?_eq_some_iff.1 hcs).1).trans hcs⟩
  have hH4 : w.heap.size + 4 ≤ W0.heap.size := by omega
  clear hb0 hb1 hbx1 hb3 hbw1 hbx hbd hat hcv hA hbb hR hR2 hto hrow
  refine range_comments (w1.heap.size + 2) cap ra (L0.map tkOf) (by omega) rfl rfl (fun xs W => StI w W0.heap.size (.slice ra L0.length cap) ra (L0.map tkOf) s (stG s xs).1 (stG s xs).2 W)
    (fun xs W W' h k => h.sm hH4 k hrg)
    (fun pre W h => by rw [hlen]; have := h.cv.cell 0; rw [hsz] at this; exact this)
    (fun pre W h i hi => by obtain ⟨g, e, _, c⟩ := h.row i hi; exact ⟨g, e, c⟩)
    (fun pre t W h hn => by rw [stG_snoc]; unfold stF; rw [if_neg (by rw [hn]; decide)]; exact h) hst
    (fun m t q => { tmps := #[.string s, .pointer (some ⟨w.heap.size, 0, none⟩), .string ⟨#[]⟩, .nilIface, .slice ra L0.length cap, .nilIface, .pointer (some ⟨w1.heap.size, 0, none⟩), .pointer (some ⟨w1.heap.size + 1, 0, none⟩), undef, .pointer (some ⟨q, 0, none⟩), .tuple #[.slice ra L0.length cap, .nilIface], .string s, .tuple #[.slice ra L0.length cap, .nilIface], .slice ra L0.length cap, .nilIface, .nilIface, .bool false, undef, .slice ra L0.length cap, .func (.func 23) #[] #[.pointer (some ⟨w1.heap.size + 1 + 1, 0, none⟩)], .int .i64 m, .agg t.cells, undef, undef, undef, undef, undef, undef, undef, undef, undef, undef, undef, undef, undef, undef, undef, undef, undef, undef, undef, undef, undef, undef, undef], defers := [] }) ?assign ?body ?done
  case assign =>
    intro l m t W K hK
    obtain ⟨tk, ts, ta, tl, tc, tf⟩ := t
    simp only [Tk.cells] at hK ⊢
    gi_wp2
    exact hK
  case body =>
    intro l pre t q W h hpre hnt hq hB hob
    obtain ⟨r, hr⟩ := hpre
    have hok := hok1 pre t r (by rw [← hr]; simp)
    change okF s (stG s pre) t = true at hok
    unfold okF at hok
    rw [hnt] at hok
    simp only [Bool.not_true, Bool.false_or, Bool.and_eq_true, decide_eq_true_eq] at hok
    obtain ⟨⟨⟨⟨o1, o2⟩, o3⟩, o4⟩, o5⟩ := hok
    have hgo : ∀ n : Nat, t.a = n → stG s (pre ++ [t]) = (n + t.s.size, (stG s pre).2 ++ (cutS s (stG s pre).1 n).data.toList ++ (if t.k = 8 then [32] else [])) := fun n e => by
      rw [stG_snoc]; unfold stF; rw [if_pos hnt, e, Int.toNat_natCast]
    generalize stG s pre = P at *
    obtain ⟨A, O⟩ := P
    obtain ⟨tk, ts, ta, tl, tc, tf⟩ := t
    obtain ⟨n, rfl⟩ : ∃ n : Nat, ta = n := ⟨ta.toNat, by simp only at o1; omega⟩
    simp only [Int.toNat_natCast] at o1 o2 o3 o4 o5
    have hgo := hgo n rfl
    simp only at hgo h
    have hlt0 : W0.heap.size + 1 < W.heap.size := by have := hB.lt; omega
    have e3 : W0.heap.size - 3 = w1.heap.size := by omega
    have e2 : W0.heap.size - 2 = w1.heap.size + 1 := by omega
    have cW := Tryz.Builder_WriteString_k (W0.heap.size - 3) (W0.heap.size - 3) (Lib.byteCells O) (s.extract A n) W h.bd.is (by rw [bc_len, ext_size s A n o3]; omega) (by omega)
    have hWS : ∀ W2, Lib.BuilderAtF TB TU (W0.heap.size - 3) (W0.heap.size - 3) (.pointer (some ⟨W0.heap.size - 3, 0, none⟩)) (Lib.byteCells O ++ Lib.strCells (s.extract A n)) W2 → Below (W0.heap.size - 3) W W2 → Lib.OthersKept TU (some (W0.heap.size - 3)) W W2 →
        StI w W0.heap.size (.slice ra L0.length cap) ra (L0.map tkOf) s A (O ++ (cutS s A n).data.toList) W2 ∧ Kp W0.heap.size W W2 ∧ (∀ k o, (k = W0.heap.size ∨ k = W0.heap.size + 1) → W2.heap[k]? = some o → ∀ c e fz, o ≠ .cells c e fz) ∧ W0.heap.size + 1 < W2.heap.size ∧ Blk W2 q #[.int .u8 tk, .string ts, .int .i64 n, .int .i64 tl, .int .i64 tc, .int .i64 tf] 48 := fun W2 g1 g2 g3 => by
      obtain ⟨k1, k2, k3, k4⟩ := h.wrote (l' := O ++ (cutS s A n).data.toList) hH4 hrg hob hlt0 (by rw [bc_app]; exact g1) g2 g3
      exact ⟨k1, k2, k3, k4, g3 q _ hB (by intro e; injection e with e; omega) (fun c fz e => by injection e with _ e _; exact absurd e (by decide))⟩
    have cY : ∀ W2 O2, StI w W0.heap.size (.slice ra L0.length cap) ra (L0.map tkOf) s A O2 W2 → W0.heap.size + 1 < W2.heap.size → O2.length ≤ 1099511627776 + 67108864 → Calls Tryz.prog 18 #[.pointer (some ⟨W0.heap.size - 3, 0, none⟩), .int .u8 32] W2 fun e w' => e = .returned .nilIface ∧ (Lib.BuilderAtF TB TU (W0.heap.size - 3) (W0.heap.size - 3) (.pointer (some ⟨W0.heap.size - 3, 0, none⟩)) (Lib.byteCells O2 ++ [.int .u8 32]) w' ∧ Below (W0.heap.size - 3) W2 w' ∧ Lib.OthersKept TU (some (W0.heap.size - 3)) W2 w') := fun W2 O2 k1 k4 k5 =>
      Tryz.Builder_WriteByte_k (W0.heap.size - 3) (W0.heap.size - 3) (Lib.byteCells O2) 32 W2 k1.bd.is (by rw [bc_len]; omega) (by omega)
    have hol : (O ++ (cutS s A n).data.toList).length ≤ 1099511627776 + 67108864 := by
      have h1 := ext_size s A n o3
      have h2 : (s.extract A n).data.toList.length = (s.extract A n).size := Array.length_toList
      rw [List.length_append, show (cutS s A n).data.toList.length = (s.extract A n).data.toList.length from rfl]; omega
    have b0 := hB.cell 0; have b1 := hB.cell 1; have b2 := hB.cell 2; have b3 := hB.cell 3; have b4 := hB.cell 4; have b5 := hB.cell 5
    have x0 := h.bx.cell 0
    have a0 := h.at'.cell 0
    rw [e2] at a0
    rw [e3] at cW cY
    simp [Tk.cells] at b0 b1 b2 b3 b4 b5 x0 a0
    have hwa : IntKind.i64.wrap ((n : Int) + ts.size) = ((n + ts.size : Nat) : Int) := by rw [IntWalk.i64_in _ (by omega)]; omega
    have i1 : (A : Int) ≤ n := by omega
    have i2 : (n : Int) ≤ s.size := by omega
    have i3 : (0 : Int) ≤ A := by omega
    have i4 : (0 : Int) ≤ n := by omega
    have i5 : (A : Int) ≤ s.size := by omega
    replace h := Lib.hid h; replace cW := Lib.hid cW; replace cY := Lib.hid cY; replace hWS := Lib.hid hWS; replace hob := Lib.hid hob; replace hB := Lib.hid hB; replace hgo := Lib.hid hgo; replace hr := Lib.hid hr; replace hok1 := Lib.hid hok1; replace hok2 := Lib.hid hok2; replace hok3 := Lib.hid hok3; replace hst := Lib.hid hst; replace hrg := Lib.hid hrg
    replace hsz := Lib.hid hsz; replace e2 := Lib.hid e2; replace e3 := Lib.hid e3; replace hol := Lib.hid hol
    by_cases k8 : tk = 8
    · subst k8
      gi_wp2_with (first | (refine ⟨trivial, ?_⟩; gi_at_call 17; refine (CallsIn.inRound l (callsIn_wide.2 cW.out)).mono ?_; rintro e W2 ⟨rfl, g1, g2, g3⟩; rw [← e3.out] at g1 g2 g3; obtain ⟨k1, k2, k3, k4, k5⟩ := hWS.out W2 g1 g2 g3; have b0' := k5.cell 0; have b1' := k5.cell 1; have b2' := k5.cell 2; have a0' := k1.at'.cell 0; have f0' := k1.at'.frozen 0; rw [e2.out] at a0' f0'; simp at b0' b1' b2' a0'; replace k1 := Lib.hid k1; replace k2 := Lib.hid k2; replace k3 := Lib.hid k3; replace k5 := Lib.hid k5; clear g1 g2 g3) | (refine ⟨trivial, ?_⟩; gi_at_call 18; refine (CallsIn.inRound l (callsIn_wide.2 (cY.out W2 _ k1.out k4 hol.out))).mono ?_; rintro e W3 ⟨rfl, g1, g2, g3⟩; rw [← e3.out] at g1 g2 g3; obtain ⟨y1, y2, y3, y4⟩ := k1.out.wrote (l' := O ++ (cutS s A n).data.toList ++ [32]) hH4 hrg.out k3.out k4 (by rw [bc_app]; exact g1) g2 g3; have k5' := g3 q _ k5.out (by intro e; injection e with e; omega) (fun c fz e => by injection e with _ e _; exact absurd e (by decide)); have k5'' : Blk W3 q #[.int .u8 8, .string ts, .int .i64 n, .int .i64 tl, .int .i64 tc, .int .i64 tf] 48 := k5'; have d1' := k5''.cell 1; have d2' := k5''.cell 2; have da' := y1.at'.cell 0; have df' := y1.at'.frozen 0; rw [e2.out] at da' df'; simp at d1' d2' da'; replace y1 := Lib.hid y1; replace y2 := Lib.hid y2; clear g1 g2 g3 k5' k5'' y3))
      have hfi := y1.out.turn hH4 hrg.out (n + ts.size)
      rw [e2.out, show ((n + ts.size : Nat) : Int) = (n : Int) + ts.size by omega] at hfi
      refine ⟨(k2.out.trans' y2.out).trans' hfi.2, ?_⟩
      change StI w W0.heap.size _ _ _ _ (stG s (pre ++ [⟨8, ts, n, tl, tc, tf⟩])).1 (stG s (pre ++ [⟨8, ts, n, tl, tc, tf⟩])).2 _
      rw [hgo.out]
      exact hfi.1
    · have f8 : (tk == 8) = false := by simp [k8]
      gi_wp2_with (first | (refine ⟨trivial, ?_⟩; gi_at_call 17; refine (CallsIn.inRound l (callsIn_wide.2 cW.out)).mono ?_; rintro e W2 ⟨rfl, g1, g2, g3⟩; rw [← e3.out] at g1 g2 g3; obtain ⟨k1, k2, k3, k4, k5⟩ := hWS.out W2 g1 g2 g3; have b0' := k5.cell 0; have b1' := k5.cell 1; have b2' := k5.cell 2; have a0' := k1.at'.cell 0; have f0' := k1.at'.frozen 0; rw [e2.out] at a0' f0'; simp at b0' b1' b2' a0'; replace k1 := Lib.hid k1; replace k2 := Lib.hid k2; replace k3 := Lib.hid k3; replace k5 := Lib.hid k5; clear g1 g2 g3))
      have hfi := k1.out.turn hH4 hrg.out (n + ts.size)
      rw [e2.out, show ((n + ts.size : Nat) : Int) = (n : Int) + ts.size by omega] at hfi
      refine ⟨k2.out.trans' hfi.2, ?_⟩
      change StI w W0.heap.size _ _ _ _ (stG s (pre ++ [⟨tk, ts, n, tl, tc, tf⟩])).1 (stG s (pre ++ [⟨tk, ts, n, tl, tc, tf⟩])).2 _
      rw [hgo.out, if_neg k8, List.append_nil]
      exact hfi.1
  case done =>
    intro W h hK
    change StI w W0.heap.size (.slice ra L0.length cap) ra (L0.map tkOf) s (stG s (L0.map tkOf)).1 (stG s (L0.map tkOf)).2 W at h
    change (stG s (L0.map tkOf)).1 ≤ s.size at hok2
    change (stG s (L0.map tkOf)).2.length ≤ 1099511627776 at hok3
    obtain ⟨A, O, hP⟩ : ∃ A O, stG s (L0.map tkOf) = (A, O) := ⟨_, _, rfl⟩
    rw [hP] at h hok2 hok3
    replace hP := Lib.hid hP
    simp only at h hok2 hok3
    have e3 : W0.heap.size - 3 = w1.heap.size := by omega
    have e2 : W0.heap.size - 2 = w1.heap.size + 1 := by omega
    have hlt0 : W0.heap.size < W.heap.size := (Array.getElem?_eq_some_iff.1 hK).1
    have hz : (s.extract A s.size).size = s.size - A := ext_size s A s.size (Nat.le_refl _)
    have cW := Tryz.Builder_WriteString_k (W0.heap.size - 3) (W0.heap.size - 3) (Lib.byteCells O) (s.extract A s.size) W h.bd.is (by rw [bc_len, hz]; omega) (by omega)
    have x0 := h.bx.cell 0
    have a0 := h.at'.cell 0
    rw [e2] at a0
    rw [e3] at cW
    simp at x0 a0
    have i3 : (0 : Int) ≤ A := by omega
    have i5 : (A : Int) ≤ s.size := by omega
    have hlo := h.lo
    have hne : W0.heap.size ≠ w1.heap.size := by omega
    have hws : w1.heap.size ≤ W.heap.size := by omega
    replace h := Lib.hid h; replace cW := Lib.hid cW; replace hst := Lib.hid hst; replace hrg := Lib.hid hrg; replace hok1 := Lib.hid hok1; replace hz := Lib.hid hz
    replace hsz := Lib.hid hsz; replace e2 := Lib.hid e2; replace e3 := Lib.hid e3; replace hlo := Lib.hid hlo
    gi_wp2_with (first | (refine ⟨trivial, ?_⟩; gi_at_call 17; refine (callsIn_wide.2 cW.out).mono ?_; rintro e W2 ⟨rfl, g1, g2, g3⟩; have g1' : Lib.IsBuilderF TB TU w1.heap.size w1.heap.size (Lib.byteCells (O ++ (cutS s A s.size).data.toList)) W2 := .inr (by rw [bc_app]; exact g1); have hK2 := g3 _ _ hK (by intro e; injection e with e; exact hne e) (fun c fz e => by cases e); have hb2 := Lib.hid (hlo.out.trans (g2.mono (by omega))); have hs2 := g2.size; clear g1 g2 g3) | (refine ⟨trivial, ?_⟩; gi_at_call 19; refine (callsIn_wide.2 (Tryz.Builder_String_any_k _ _ _ _ g1' (by omega))).mono ?_; rintro e W3 ⟨rfl, g1, g2, g3⟩; have hK3 := g3 _ _ hK2 (by intro e; injection e with e; exact hne e) (fun c fz e => by cases e); have hb3 := Lib.hid (hb2.out.trans (g2.mono (by omega))); clear g1 g2 g3))
    refine ⟨by simp, .inl ⟨_, _, rfl, run_takeDeferred hK3, ?_⟩⟩
    have hs9 := Sm.putObj W0.heap.size W3 W0.heap.size (.deferred none) (.inl rfl)
    have hwH : w.heap.size ≤ W0.heap.size := by omega
    refine ⟨.tuple #[.string ⟨(O ++ (cutS s A s.size).data.toList).toArray⟩, .nilIface], by simp [results, Tryz.results9, go_sem], by rw [hP.out], below_sm hb3.out hs9 hwH (Nat.le_refl _)⟩
end Go.Proofs.YtdphhmigbbgjmaaGreatDoor
end
section
namespace Go.Proofs.YtdphhmigbbgjmaaGreatDoor
open Go.RowKit Go.Lib Go.Shelf
open PScan
open Go.Proofs.YtdphhmigbbgjmaaGreatDoorW.PrintWords
set_option linter.unusedVariables false
set_option linter.unusedSimpArgs false
/-- Tokens stand no earlier than where reading began. -/
theorem sc_ge (s : ByteArray) : ∀ (k a : Nat), CB s a → s.size < a + k → ∀ t ∈ (scS s k a).1, (a : Int) ≤ t.f2.f0
  | 0, a, h, h2, t, ht => by simp [scS] at ht
  | k + 1, a, h, h2, t, ht => by
    obtain ⟨w1, w2, w3⟩ := wsE_fin s a h
    unfold scS at ht
    by_cases c0 : wsE s a = s.size
    · rw [if_pos c0] at ht; simp at ht
    rw [if_neg c0] at ht
    obtain ⟨e, q1, q2, q3, q4, q5⟩ := one_fin s (wsE s a) (by omega) w3
    have hem : (oneV s (wsE s a)).2.1.toNat = e := by rw [q1]; simp
    by_cases c2 : (oneV s (wsE s a)).2.2 = 0
    · have q6 := q5 c2
      rw [if_pos c2, hem] at ht
      rcases List.mem_cons.1 ht with rfl | ht
      · show (a : Int) ≤ ((wsE s a : Nat) : Int); omega
      · have := sc_ge s k e q4 (by omega) t ht; omega
    · rw [if_neg c2] at ht; simp at ht
theorem sc_gt (s : ByteArray) (k a : Nat) (h : CB s a) (h2 : s.size < a + k) (t0 : S48) (r : List S48) (hL : (scS s k a).1 = t0 :: r) : ∀ t ∈ r, t0.f2.f0 < t.f2.f0 := by
  cases k with
  | zero => simp [scS] at hL
  | succ k =>
    obtain ⟨w1, w2, w3⟩ := wsE_fin s a h
    unfold scS at hL
    by_cases c0 : wsE s a = s.size
    · rw [if_pos c0] at hL; simp at hL
    rw [if_neg c0] at hL
    obtain ⟨e, q1, q2, q3, q4, q5⟩ := one_fin s (wsE s a) (by omega) w3
    have hem : (oneV s (wsE s a)).2.1.toNat = e := by rw [q1]; simp
    by_cases c2 : (oneV s (wsE s a)).2.2 = 0
    · have q6 := q5 c2
      rw [if_pos c2, hem] at hL
      simp only [List.cons.injEq] at hL
      obtain ⟨rfl, rfl⟩ := hL
      intro t ht
      have := sc_ge s k e q4 (by omega) t ht
      show ((wsE s a : Nat) : Int) < _
      omega
    · rw [if_neg c2] at hL; simp at hL
def rmS (r : Nat × ByteArray × Bool) : S38 := ⟨(r.1 : Int), r.2.1, r.2.2⟩
/-- The first token, or any. -/
def headT (L : List S48) : Tk := match L with | [] => ⟨0, ⟨#[]⟩, 0, 0, 0, 0⟩ | t :: _ => tkOf t
theorem beh_at (L : List S48) (hL : ∀ t0 r, L = t0 :: r → ∀ t ∈ r, t0.f2.f0 < t.f2.f0) (i : Nat) (hi : i < L.length) : behT (headT L) (tkOf L[i]) = (decide (0 < i) && (L[i].f3 == 0)) := by
  cases L with
  | nil => simp at hi
  | cons t0 r =>
    cases i with
    | zero => simp [behT, headT, tkOf]
    | succ i =>
      have hir : i < r.length := by simpa using hi
      have hlt := hL t0 r rfl r[i] (List.getElem_mem _)
      have : ((tkOf ((t0 :: r)[i + 1])).a == (headT (t0 :: r)).a) = false := by
        show (r[i].f2.f0 == t0.f2.f0) = false
        simp; omega
      unfold behT
      rw [this]
      simp [tkOf]
theorem rd_at (L : List S48) (i : Nat) (hi : i < L.length) : rd_T48 L (i : Int) = L[i] := by
  unfold rd_T48; rw [Int.toNat_natCast, List.getD_eq_getElem?_getD, List.getElem?_eq_getElem hi]; rfl
theorem note_f (t : S48) : colophonref19_IsNote.f t.f0 t.f1 t.f2.f0 t.f2.f1 t.f2.f2 t.f3 = some (tkOf t).note := by
  unfold colophonref19_IsNote.f Tk.note tkOf
  by_cases h : t.f0 = 7
  · rw [if_pos h, h]; rfl
  · rw [if_neg h]; simp [h]
theorem ref_l0 (L : List S48) (hn : L.length < 1000000000000) (hL : ∀ t0 r, L = t0 :: r → ∀ t ∈ r, t0.f2.f0 < t.f2.f0) : ∀ (d k i n : Nat) (acc : List S38), L.length = i + d → d < k → n ≤ i → acc.length ≤ i →
    colophonref19_Of.l0 k L acc (n : Int) (i : Int) = some (acc ++ (rmkGo (headT L) n ((L.drop i).map tkOf)).map rmS, 0, 0, 0, 0)
  | 0, k, i, n, acc, h, hk, h1, h2 => by
    obtain ⟨k, rfl⟩ : ∃ m, k = m + 1 := ⟨k - 1, by omega⟩
    rw [colophonref19_Of.l0, if_neg (by omega), List.drop_of_length_le (by omega)]
    simp [rmkGo]
  | d + 1, k, i, n, acc, h, hk, h1, h2 => by
    obtain ⟨k, rfl⟩ : ∃ m, k = m + 1 := ⟨k - 1, by omega⟩
    have hi : i < L.length := by omega
    have e1 : Hid (wrap64 ((i : Int) + 1) = ((i + 1 : Nat) : Int)) := Lib.hid (by rw [w64 (by omega) (by omega)]; omega)
    have e2 : Hid (wrap64 ((n : Int) + 1) = ((n + 1 : Nat) : Int)) := Lib.hid (by rw [w64 (by omega) (by omega)]; omega)
    rw [colophonref19_Of.l0, if_pos (by omega), if_pos (by omega), rd_at L i hi, note_f, Option.bind_some, e1.out, e2.out, List.drop_eq_getElem_cons hi, List.map_cons, rmkGo]
    by_cases hno : (tkOf L[i]).note = true
    · rw [if_pos hno, if_pos hno]
      have hb : colophonref19_Behind.f L (i : Int) = some (behT (headT L) (tkOf L[i])) := by
        rw [beh_at L hL i hi]
        unfold colophonref19_Behind.f
        by_cases h0 : 0 < i
        · rw [if_pos (by omega), if_pos (by omega), if_pos (by omega), rd_at L i hi]; simp [h0]
        · rw [if_neg (by omega)]; simp [h0]
      rw [hb, Option.bind_some, if_pos (by omega), ref_l0 L hn hL d k (i + 1) n _ (by omega) (by omega) (by omega) (by simp; omega)]
      simp [rmS, tkOf]
    · rw [if_neg hno, if_neg hno]
      exact ref_l0 L hn hL d k (i + 1) (n + 1) acc (by omega) (by omega) (by omega) (by omega)
theorem all_rise (s : ByteArray) : ∀ t0 r, (allV s).1 = t0 :: r → ∀ t ∈ r, t0.f2.f0 < t.f2.f0 := fun t0 r h => sc_gt s (s.size + 1) 0 (CB_zero s) (by omega) t0 r h
/-- A source's comments. -/
def rmsV (s : ByteArray) : List (Nat × ByteArray × Bool) := rmkGo (headT (allV s).1) 0 ((allV s).1.map tkOf)
theorem refOf_ok (s : ByteArray) (hs : s.size ≤ 67108864) (h0 : (allV s).2.1 = 0) : colophonref19_Of.f (20 * s.size + 300) s = some ((rmsV s).map rmS, 0, 0, 0, 0) := by
  unfold colophonref19_Of.f
  rw [refAll_f s (by omega), Option.bind_some, if_pos h0]
  have hl := all_len s
  have := ref_l0 (allV s).1 (by omega) (all_rise s) (allV s).1.length (20 * s.size + 300) 0 0 [] (by omega) (by omega) (Nat.le_refl _) (Nat.le_refl _)
  simpa [rmsV] using this
theorem refOf_no (s : ByteArray) (hs : s.size ≤ 67108864) (h0 : (allV s).2.1 ≠ 0) : colophonref19_Of.f (20 * s.size + 300) s = some ([], (allV s).2) := by
  unfold colophonref19_Of.f
  rw [refAll_f s (by omega), Option.bind_some, if_neg h0]
theorem head_at (L : List S48) : ∀ h : 0 < (L.map tkOf).length, (L.map tkOf)[0] = headT L := fun h => by
  cases L with
  | nil => simp at h
  | cons t r => rfl
theorem rms_len (s : ByteArray) : (rmsV s).length ≤ s.size := by
  have h1 := rmk_len (headT (allV s).1) 0 ((allV s).1.map tkOf)
  have h2 := all_len s
  rw [List.length_map] at h1
  unfold rmsV; omega
/-- A row of comments of the call's own, as the print reads it. -/
theorem rmkC_drop (l : List (Nat × ByteArray × Bool)) : ∀ (j : Nat) (r : Nat × ByteArray × Bool), l[j]? = some r → ((rmkC l).drop (j * 3)).take 3 = [.int .i64 r.1, .string r.2.1, .bool r.2.2] := by
  induction l with
  | nil => intro j r h; simp at h
  | cons x l ih =>
    intro j r h
    cases j with
    | zero => simp at h; subst h; simp [rmkC]
    | succ j =>
      have := ih j r (by simpa using h)
      rw [show (j + 1) * 3 = j * 3 + 3 by omega]
      simpa [rmkC] using this
theorem rmkC_len (l : List (Nat × ByteArray × Bool)) : (rmkC l).length = l.length * 3 := by
  unfold rmkC
  induction l with
  | nil => rfl
  | cons t r ih => rw [List.flatMap_cons, List.length_append, ih]; simp; omega
theorem R_rmk {w : World} {base : Nat} {ok : Nat → Prop} {v : Value} {l : List (Nat × ByteArray × Bool)} (h : w.ownsRow base 38 3 v l.length (rmkC l)) (hok : ∀ k, v.ownBlock = some k → ok k) : Kd.R k38 38 w base ok v (l.map rmS) := by
  refine ⟨hok, rmkC l, by rw [List.length_map]; exact h, by rw [List.length_map]; exact rmkC_len l, fun j p hp => ?_⟩
  rw [List.getElem?_map] at hp
  obtain ⟨r, hr, rfl⟩ := Option.map_eq_some_iff.1 hp
  show k38.M w base _ (rmS r) (((rmkC l).drop (j * 3)).take 3)
  rw [rmkC_drop l j r hr]
  exact k38_mkM w base _ (rmS r)
theorem same19_l0 (L : List S38) (hL : L.length < 1000000000000) : ∀ (d k i : Nat), L.length = i + d → d < k → colophonlaw19_same.l0 k L L (i : Int) = some true
  | 0, k, i, h, hk => by
    obtain ⟨k, rfl⟩ : ∃ m, k = m + 1 := ⟨k - 1, by omega⟩
    simp only [colophonlaw19_same.l0]
    rw [if_neg (by omega)]
  | d + 1, k, i, h, hk => by
    obtain ⟨k, rfl⟩ : ∃ m, k = m + 1 := ⟨k - 1, by omega⟩
    have ih := same19_l0 L hL d k (i + 1) (by omega) (by omega)
    simp only [colophonlaw19_same.l0]
    rw [if_pos (by omega), if_pos (by omega), if_pos (by omega), if_neg (by simp), w64 (by omega) (by omega), show (i : Int) + 1 = ((i + 1 : Nat) : Int) by omega, ih]
theorem same19_f (L : List S38) (hL : L.length < 1000000000000) : colophonlaw19_same.f (L.length + 1) L L = some true := by
  unfold colophonlaw19_same.f
  rw [if_pos rfl]
  exact same19_l0 L hL L.length _ 0 (by omega) (by omega)
end Go.Proofs.YtdphhmigbbgjmaaGreatDoor
end
section
namespace Go.Proofs.YtdphhmigbbgjmaaGreatDoor
open Go.RowKit Go.Lib Go.Shelf
attribute [local go_sem] byteAt_get wrap64_byteAt
open PScan
open Go.Proofs.YtdphhmigbbgjmaaGreatDoorW.PrintWords
set_option linter.unusedVariables false
set_option linter.unusedSimpArgs false
/-- a {x}, a line's end, // y and a blank, a line's end, b -/
def src1 : ByteArray := ⟨#[97, 32, 123, 120, 125, 10, 47, 47, 32, 121, 32, 10, 98]⟩
def src2 : ByteArray := ⟨#[97, 123, 98, 125, 99, 47, 47, 32, 100, 10, 101]⟩
theorem src1_ok : (allV src1).2.1 = 0 ∧ rmsV src1 = [(1, ⟨#[123, 120, 125]⟩, true), (1, ⟨#[47, 47, 32, 121]⟩, false)] := by decide +kernel
theorem src2_ok : (allV src2).2.1 = 0 ∧ okG src2 (0, []) ((allV src2).1.map tkOf) = true ∧ (stG src2 ((allV src2).1.map tkOf)).2 ++ (cutS src2 (stG src2 ((allV src2).1.map tkOf)).1 src2.size).data.toList = [97, 32, 99, 10, 101] := by decide +kernel
set_option maxRecDepth 100000 in
set_option maxHeartbeats 8000000 in
theorem law19_awake (w : World) (hT : Clas w) : Calls Tryz.prog 4 #[] w fun e w' => e = .returned (.bool true) ∧ Below w.heap.size w w' := by
  have hO := notes_Of_ok src1 (by decide) src1_ok.1 (headT (allV src1).1) (head_at _) w hT
  have e1 := src1_ok.2
  unfold rmsV at e1
  rw [e1] at hO
  have hS := fun w1 h1 => notes_Strip_ok src2 (by decide) src2_ok.1 src2_ok.2.1 w1 h1
  rw [src2_ok.2.2] at hS
  clear e1
  replace hS := Lib.hid hS; replace hO := Lib.hid hO
  go_enter Tryz.func4, Tryz.ntmps4
  go_wp2_with fail
  refine hO.out.mono ?_
  rintro e w1 ⟨o, rfl, hr, b1⟩
  rcases hr.2 with ⟨_, h2⟩ | ⟨g, cap, cur, rfl, _, _, hc1, hc2, _⟩
  · simp at h2
  have cl := World.ownsRow.cells hr (g := g) rfl
  have c0 := cl 0 _ rfl; have c1 := cl 1 _ rfl; have c2 := cl 2 _ rfl; have c3 := cl 3 _ rfl; have c4 := cl 4 _ rfl; have c5 := cl 5 _ rfl
  simp only [at_off'] at c0 c1 c2 c3 c4 c5
  simp only [List.length_cons, List.length_nil, Nat.reduceAdd] at hc1 hc2
  have hT1 := Lib.hid (hT.below b1)
  replace hr := Lib.hid hr
  clear cl
  go_wp2_with fail
  refine (hS.out w1 hT1.out).mono ?_
  rintro e w2 ⟨rfl, b2⟩
  have k : ∀ j u, w1.cell? ⟨g, j, none⟩ = some u → w2.cell? ⟨g, j, none⟩ = some u := fun j u h => (b2.cell (p := ⟨g, j, none⟩) (World.block_lt_of_cell? w1 _ h)).trans h
  replace c0 := k _ _ c0; replace c1 := k _ _ c1; replace c2 := k _ _ c2; replace c3 := k _ _ c3; replace c4 := k _ _ c4; replace c5 := k _ _ c5
  have hb := Lib.hid (b1.trans (b2.mono b1.size))
  clear k
  go_wp2_with fail
  go_ret
  exact ⟨rfl, hb.out⟩
end Go.Proofs.YtdphhmigbbgjmaaGreatDoor
end
section
namespace Go.Proofs.YtdphhmigbbgjmaaGreatDoor
open Go.RowKit Go.Lib Go.Shelf
attribute [local go_sem] byteAt_get wrap64_byteAt
open PScan
open Go.Proofs.YtdphhmigbbgjmaaGreatDoorW.PrintWords
set_option linter.unusedVariables false
set_option linter.unusedSimpArgs false
abbrev TR : TypeId := 38
theorem of_ok (s : ByteArray) (hs : s.size ≤ 67108864) (h0 : (allV s).2.1 = 0) (w : World) (hT : Clas w) :
    Calls Tryz.prog 6 #[.string s] w fun e w' => ∃ o, e = .returned (.tuple #[o, .nilIface]) ∧ w'.ownsRow w.heap.size TR 3 o (rmsV s).length (rmkC (rmsV s)) ∧ Below w.heap.size w w' := notes_Of_ok s hs h0 (headT (allV s).1) (head_at _) w hT
theorem same_c {w : World} {b1 b2 : Nat} {o1 o2 : Nat → Prop} {A B : Option Addr} {c d : Nat} (L : List S38) (hL : L.length < 1000000000000) (h1 : Kd.R k38 38 w b1 o1 (.slice A L.length c) L) (h2 : Kd.R k38 38 w b2 o2 (.slice B L.length d) L) :
    Calls Tryz.prog 8 #[.slice A L.length c, .slice B L.length d] w fun e w' => e = .returned (.bool true) ∧ Below w.heap.size w w' := by
  obtain ⟨_, h1c, h1r⟩ := Kd.R_reads' h1
  obtain ⟨_, h2c, h2r⟩ := Kd.R_reads' h2
  refine (colophonlaw19_same.calls _ A c L B d L true w h1r h1c h2r h2c (same19_f L hL)).mono ?_
  rintro e w' ⟨rfl, hd⟩
  obtain ⟨n, rfl⟩ := hd
  exact ⟨rfl, pw_below_drewN (Below.refl _ _) n⟩
set_option maxRecDepth 100000 in
set_option maxHeartbeats 16000000 in
theorem law19_no (s : ByteArray) (hs : s.size ≤ 2097152) (h0 : (allV s).2.1 ≠ 0) (w : World) (hT : Clas w) (hE : ErrT w) : Calls Tryz.prog 3 #[.string s] w fun e w' => e = .returned (.bool true) ∧ Below w.heap.size w w' := by
  have hA := law19_awake w hT
  obtain ⟨c, x, y, z, hv⟩ : ∃ c x y z, (allV s).2 = (c, x, y, z) := ⟨_, _, _, _, rfl⟩
  rw [hv] at h0
  simp only at h0
  have hf := refOf_no s (by omega) (by rw [hv]; exact h0)
  rw [hv] at hf
  have cR := fun w1 => colophonref19_Of.calls (20 * s.size + 300) s [] c x y z w1 hf
  have cO := fun w1 h1 => notes_Of_no s (by omega) c x y z h0 hv w1 h1
  have hsz : ¬ (2097152 : Int) < (s.size : Int) := by omega
  replace hA := Lib.hid hA; replace cR := Lib.hid cR; replace cO := Lib.hid cO; replace hf := Lib.hid hf; replace hv := Lib.hid hv
  go_enter Tryz.func3, Tryz.ntmps3
  go_wp2_with fail
  refine hA.out.mono ?_
  rintro e w1 ⟨rfl, b1⟩
  replace b1 := Lib.hid b1
  go_wp2_with fail
  refine (cR.out w1).mono ?_
  rintro e w2 ⟨v, rfl, hR, b2⟩
  obtain ⟨A, cp, rfl, _, _⟩ := Kd.R_reads hR
  have b02 := b1.out.trans (b2.mono b1.out.size)
  have hFb := Blk.new w2 #[.int .i64 c, .int .i64 x, .int .i64 y, .int .i64 z] 28
  have b03 := Lib.hid (b02.alloc b02.size (.cells #[.int .i64 c, .int .i64 x, .int .i64 y, .int .i64 z] 28))
  have hR3 := Lib.hid (Kd.R_alloc hR (.cells #[.int .i64 c, .int .i64 x, .int .i64 y, .int .i64 z] 28))
  replace hFb := Lib.hid hFb
  clear b2 hR b02
  go_wp2_with fail
  refine (cO.out _ (hT.below b03.out)).mono ?_
  rintro e w4 ⟨q1, rfl, hq1, hB1, b4⟩
  have b04 := Lib.hid (b03.out.trans (b4.mono b03.out.size))
  have hFb4 := Lib.hid (hFb.out.below' b4)
  have hR4 := Lib.hid (Kd.R_below hR3.out b4)
  replace hB1 := Lib.hid hB1
  clear b4 hR3 hFb
  go_wp2_with fail
  refine (cO.out _ (hT.below b04.out)).mono ?_
  rintro e w5 ⟨q2, rfl, hq2, hB2, b5⟩
  have b05 := Lib.hid (b04.out.trans (b5.mono b04.out.size))
  have hFb5 := hFb4.out.below' b5
  have hR5 := Lib.hid (Kd.R_below hR4.out b5)
  have hB15 := Lib.hid (hB1.out.below' b5)
  have f0 := hFb5.cell 0; have f1 := hFb5.cell 1; have f2 := hFb5.cell 2; have f3 := hFb5.cell 3
  simp at f0 f1 f2 f3
  have cI := Lib.hid (law16_Is q1 c x y z h0 w5 (hE.below b05.out) hB15.out)
  replace hB2 := Lib.hid hB2; replace hFb5 := Lib.hid hFb5
  clear b5 hR4 hFb4 hB1
  go_wp2_with fail
  refine cI.out.mono ?_
  rintro e w6 ⟨rfl, b6⟩
  have b06 := Lib.hid (b05.out.trans (b6.mono b05.out.size))
  have hFb6 := hFb5.out.below' b6
  have hR6 := Lib.hid (Kd.R_below hR5.out b6)
  have hB26 := Lib.hid (hB2.out.below' b6)
  have g0 := hFb6.cell 0; have g1 := hFb6.cell 1; have g2 := hFb6.cell 2; have g3 := hFb6.cell 3
  simp at g0 g1 g2 g3
  have cI2 := Lib.hid (law16_Is q2 c x y z h0 w6 (hE.below b06.out) hB26.out)
  clear b6 hR5 cI f0 f1 f2 f3 hFb6
  go_wp2_with fail
  refine cI2.out.mono ?_
  rintro e w7 ⟨rfl, b7⟩
  have b07 := Lib.hid (b06.out.trans (b7.mono b06.out.size))
  have hR7 := Lib.hid (Kd.R_below hR6.out b7)
  have cS := Lib.hid (same_c (w := w7) (o1 := fun _ => True) (b1 := 0) [] (by decide) (Kd.R_nil _ _ _ _ _) hR7.out)
  clear b7 hR6 cI2 g0 g1 g2 g3
  go_wp2_with fail
  refine cS.out.mono ?_
  rintro e w8 ⟨rfl, b8⟩
  have b08 := Lib.hid (b07.out.trans (b8.mono b07.out.size))
  have hR8 := Lib.hid (Kd.R_below hR7.out b8)
  have cS2 := Lib.hid (same_c (w := w8) (o1 := fun _ => True) (b1 := 0) [] (by decide) (Kd.R_nil _ _ _ _ _) hR8.out)
  clear b8 hR7 cS
  go_wp2_with fail
  go_loopw [13] (fun iv W => iv = .int .i64 0 ∧ W = w8) (fun iv _ => 0)
  case atStart => exact ⟨rfl, rfl⟩
  case round =>
    obtain ⟨rfl, rfl⟩ := hrel
    go_wp2_with fail
    refine cS2.out.mono ?_
    rintro e w9 ⟨rfl, b9⟩
    have b09 := Lib.hid (b08.out.trans (b9.mono b08.out.size))
    clear b9 cS2
    go_wp2_with fail
    go_ret
    exact ⟨rfl, b09.out⟩
set_option maxRecDepth 100000 in
set_option maxHeartbeats 8000000 in
theorem law19_big (s : ByteArray) (hs : 2097152 < s.size) (w : World) (hT : Clas w) : Calls Tryz.prog 3 #[.string s] w fun e w' => e = .returned (.bool true) ∧ Below w.heap.size w w' := by
  have hA := law19_awake w hT
  have hsz : (2097152 : Int) < (s.size : Int) := by omega
  replace hA := Lib.hid hA
  go_enter Tryz.func3, Tryz.ntmps3
  go_wp2_with fail
  refine hA.out.mono ?_
  rintro e w1 ⟨rfl, b1⟩
  go_wp2_with fail
  go_ret
  exact ⟨rfl, b1⟩
theorem R_kept {w w' : World} {F : Nat → Prop} {b : Nat} {ok : Nat → Prop} {v : Value} {L : List S38} (h : Kd.R k38 38 w b ok v L) (k : Kept F w w') (hn : ∀ i, ok i → ¬ F i) : Kd.R k38 38 w' b ok v L :=
  Kd.R_step h (fun i hi hl => k.block i hl (hn i hi))
set_option maxRecDepth 100000 in
set_option maxHeartbeats 16000000 in
theorem law19_ok (s : ByteArray) (hs : s.size ≤ 2097152) (h0 : (allV s).2.1 = 0) (w : World) (hT : Clas w) : Calls Tryz.prog 3 #[.string s] w fun e w' => e = .returned (.bool true) ∧ Below w.heap.size w w' := by
  have hA := law19_awake w hT
  have cR := fun w1 => colophonref19_Of.calls (20 * s.size + 300) s ((rmsV s).map rmS) 0 0 0 0 w1 (refOf_ok s (by omega) h0)
  have cO := fun w1 h1 => of_ok s (by omega) h0 w1 h1
  have hn := rms_len s
  obtain ⟨l, hl⟩ : ∃ l, rmsV s = l := ⟨_, rfl⟩
  rw [hl] at cR cO hn
  have hml : (l.map rmS).length = l.length := List.length_map ..
  have hsz : ¬ (2097152 : Int) < (s.size : Int) := by omega
  replace hA := Lib.hid hA; replace cR := Lib.hid cR; replace cO := Lib.hid cO; replace h0 := Lib.hid h0; replace hl := Lib.hid hl
  go_enter Tryz.func3, Tryz.ntmps3
  go_wp2_with fail
  refine hA.out.mono ?_
  rintro e w1 ⟨rfl, b1⟩
  replace b1 := Lib.hid b1
  go_wp2_with fail
  refine (cR.out w1).mono ?_
  rintro e w2 ⟨v, rfl, hR, b2⟩
  obtain ⟨A, cp, rfl, _, _⟩ := Kd.R_reads hR
  have hR0 := Kd.R_mono (Kd.R_bound hR) (ok' := fun k => k < w2.heap.size) (fun k hk => hk.2.2.1)
  have b02 := b1.out.trans (b2.mono b1.out.size)
  have hFb := Lib.hid (Blk.new w2 #[.int .i64 0, .int .i64 0, .int .i64 0, .int .i64 0] 28)
  have b03 := Lib.hid (b02.alloc b02.size (.cells #[.int .i64 0, .int .i64 0, .int .i64 0, .int .i64 0] 28))
  have hR3 := Lib.hid (Kd.R_alloc hR0 (.cells #[.int .i64 0, .int .i64 0, .int .i64 0, .int .i64 0] 28))
  rw [hml] at hR3
  clear b2 hR hR0 b02
  have hw3 : w2.heap.size < (w2.alloc (.cells #[.int .i64 0, .int .i64 0, .int .i64 0, .int .i64 0] 28)).heap.size := by simp
  replace hw3 := Lib.hid hw3
  go_wp2_with fail
  refine (cO.out _ (hT.below b03.out)).mono ?_
  rintro e w4 ⟨o1, rfl, hO1, b4⟩
  obtain ⟨ga, ca, rfl⟩ := ownsRow_shape hO1
  have b04 := Lib.hid (b03.out.trans (b4.mono b03.out.size))
  have hFb4 := Lib.hid (hFb.out.below' b4)
  have hR4 := Lib.hid (Kd.R_below hR3.out b4)
  have z34 := b4.size
  have lo1 := World.ownsRow.lt hO1
  obtain ⟨B3, hB3⟩ : ∃ B3, (w2.alloc (.cells #[.int .i64 0, .int .i64 0, .int .i64 0, .int .i64 0] 28)).heap.size = B3 := ⟨_, rfl⟩
  have hw3' := hw3.out
  rw [hB3] at hw3' z34 lo1 hO1
  replace hO1 := Lib.hid hO1; replace hB3 := Lib.hid hB3
  clear b4 hR3 hFb hw3
  have cO4 := Lib.hid (cO.out w4 (hT.below b04.out))
  go_wp2_with fail
  refine cO4.out.mono ?_
  rintro e w5 ⟨o2, rfl, hO2, b5⟩
  obtain ⟨gb, cb, rfl⟩ := ownsRow_shape hO2
  have b05 := Lib.hid (b04.out.trans (b5.mono b04.out.size))
  have hFb5 := hFb4.out.below' b5
  have hR5 := Lib.hid (Kd.R_below hR4.out b5)
  have hO15 := Lib.hid (World.ownsRow.kept (row := none) hO1.out ⟨b5.os, b5.tape, b5.output, b5.size, fun i hi _ => b5.block i hi⟩ (Classical.em _))
  have z45 := b5.size
  have f0 := hFb5.cell 0; have f1 := hFb5.cell 1; have f2 := hFb5.cell 2; have f3 := hFb5.cell 3
  simp at f0 f1 f2 f3
  have lo2 := World.ownsRow.lt hO2
  have cI := Lib.hid (law16_Is_none 0 0 0 w5)
  replace hO2 := Lib.hid hO2; replace hFb5 := Lib.hid hFb5
  clear b5 hR4 hFb4 hO1 cO4
  replace lo1 := Lib.hid lo1; replace lo2 := Lib.hid lo2
  go_wp2_with fail
  refine cI.out.mono ?_
  rintro e w6 ⟨rfl, b6⟩
  have b06 := Lib.hid (b05.out.trans (b6.mono b05.out.size))
  have hFb6 := hFb5.out.below' b6
  have hR6 := Lib.hid (Kd.R_below hR5.out b6)
  have hO16 := Lib.hid (World.ownsRow.kept (row := none) hO15.out ⟨b6.os, b6.tape, b6.output, b6.size, fun i hi _ => b6.block i hi⟩ (Classical.em _))
  have hO26 := Lib.hid (World.ownsRow.kept (row := none) hO2.out ⟨b6.os, b6.tape, b6.output, b6.size, fun i hi _ => b6.block i hi⟩ (Classical.em _))
  have g0 := hFb6.cell 0; have g1 := hFb6.cell 1; have g2 := hFb6.cell 2; have g3 := hFb6.cell 3
  simp at g0 g1 g2 g3
  have cI2 := Lib.hid (law16_Is_none 0 0 0 w6)
  have z56 := b6.size
  clear b6 hR5 cI f0 f1 f2 f3 hFb6 hFb5 hO15 hO2
  go_wp2_with fail
  refine cI2.out.mono ?_
  rintro e w7 ⟨rfl, b7⟩
  have b07 := Lib.hid (b06.out.trans (b7.mono b06.out.size))
  have hR7 := Lib.hid (Kd.R_below hR6.out b7)
  have hO17 := Lib.hid (World.ownsRow.kept (row := none) hO16.out ⟨b7.os, b7.tape, b7.output, b7.size, fun i hi _ => b7.block i hi⟩ (Classical.em _))
  have hO27 := Lib.hid (World.ownsRow.kept (row := none) hO26.out ⟨b7.os, b7.tape, b7.output, b7.size, fun i hi _ => b7.block i hi⟩ (Classical.em _))
  have z67 := b7.size
  have hRa := R_rmk (ok := fun k => B3 ≤ k ∧ k < w4.heap.size) hO17.out (fun k hk => lo1.out k hk)
  have hRv := hR7.out
  rw [← hml] at hRa hRv
  have cS := same_c (w := w7) (l.map rmS) (by rw [hml]; omega) hRa hRv
  rw [hml] at cS
  replace cS := Lib.hid cS; replace hRa := Lib.hid hRa; replace hRv := Lib.hid hRv
  clear b7 hR6 cI2 g0 g1 g2 g3 hO16 hO26
  go_wp2_with fail
  refine cS.out.mono ?_
  rintro e w8 ⟨rfl, b8⟩
  have b08 := Lib.hid (b07.out.trans (b8.mono b07.out.size))
  have hR8 := Lib.hid (Kd.R_below hR7.out b8)
  have hO18 := Lib.hid (World.ownsRow.kept (row := none) hO17.out ⟨b8.os, b8.tape, b8.output, b8.size, fun i hi _ => b8.block i hi⟩ (Classical.em _))
  have hO28 := Lib.hid (World.ownsRow.kept (row := none) hO27.out ⟨b8.os, b8.tape, b8.output, b8.size, fun i hi _ => b8.block i hi⟩ (Classical.em _))
  have hRb8 := R_rmk (ok := fun k => w4.heap.size ≤ k ∧ k < w5.heap.size) hO28.out (fun k hk => lo2.out k hk)
  replace hRb8 := Lib.hid hRb8
  have z78 := b8.size
  clear b8 hR7 cS hRa hRv hO17 hO27
  go_wp2_with fail
  go_loopw [13] (fun iv W => ∃ (i : Nat) (xs : List Value), .int .i64 (i : Int) = iv ∧ i ≤ l.length ∧ Hid (Kept (fun k => (Value.slice ga l.length ca).ownBlock = some k) w8 W) ∧ Hid (W.ownsRow B3 TR 3 (.slice ga l.length ca) l.length xs)) (fun iv _ => l.length - (RowKit.intOf iv).toNat)
  case atStart => exact ⟨0, _, rfl, Nat.zero_le _, Lib.hid (Kept.refl _ _), hO18⟩
  case round =>
    obtain ⟨i, xs, rfl, hi, hk, hx⟩ := hrel
    by_cases hlt : i < l.length
    · have hi1 : (i : Int) < l.length := by omega
      have hi2 : (0 : Int) ≤ i := by omega
      have wi : IntKind.i64.wrap ((i : Int) + 1) = i + 1 := IntWalk.i64_in _ (by omega)
      have hmeas : l.length - (RowKit.intOf (.int .i64 ((i : Int) + 1))).toNat < l.length - (RowKit.intOf (.int .i64 (i : Int))).toNat := by simp [RowKit.intOf]; omega
      rcases hx.out.2 with ⟨_, h2⟩ | ⟨g, cap, cur, h1, h3, h4, h5, h6, h7, h8⟩
      · omega
      injection h1 with h1 _ h1'
      subst h1
      have y1 := World.ownsRow.stored hx.out (i * 3) (.int .i64 (-1))
      have y2 := World.ownsRow.stored y1.1 (i * 3 + 1) (.string ⟨#[]⟩)
      have y3 := World.ownsRow.stored y2.1 (i * 3 + 2) (.bool false)
      have hxl : xs.length = l.length * 3 := hx.out.1
      have m0 := World.ownsRow.cellAt hx.out (i * 3) (by omega)
      have m1 := World.ownsRow.cellAt hx.out (i * 3 + 1) (by omega)
      have m2 := World.ownsRow.cellAt hx.out (i * 3 + 2) (by omega)
      rw [List.getElem?_eq_getElem (by omega)] at m0 m1 m2
      have v0 := World.ownsRow.frozenAt hx.out (i * 3)
      have v1 := World.ownsRow.frozenAt hx.out (i * 3 + 1)
      have v2 := World.ownsRow.frozenAt hx.out (i * 3 + 2)
      have hk3 := Lib.hid (((hk.out.setCell ⟨g, i * 3, none⟩ (.int .i64 (-1)) rfl).setCell ⟨g, i * 3 + 1, none⟩ (.string ⟨#[]⟩) rfl).setCell ⟨g, i * 3 + 2, none⟩ (.bool false) rfl)
      have y4 := Lib.hid y3.1
      clear y1 y2 y3
      generalize xs[i * 3] = u0 at *
      generalize xs[i * 3 + 1] = u1 at *
      generalize xs[i * 3 + 2] = u2 at *
      replace hx := Lib.hid hx; replace hk := Lib.hid hk
      clear h3 h4 h5 h6 h7 h8
      go_wp2_with fail
      exact ⟨⟨i + 1, _, by go_num, by omega, hk3, y4⟩, hmeas⟩
    · have hie : ¬ (i : Int) < l.length := by omega
      have hRb := R_kept hRb8.out hk.out (fun k hk1 hk2 => by have := (lo1.out k hk2).2; omega)
      have hRv := R_kept hR8.out hk.out (fun k hk1 hk2 => by have := (lo1.out k hk2).1; omega)
      rw [← hml] at hRb hRv
      have cS2 := same_c (w := wr) (l.map rmS) (by rw [hml]; omega) hRb hRv
      rw [hml] at cS2
      have hbw := b08.out.trans (hk.out.below (B := w.heap.size) b08.out.size (fun k hk2 => by have := (lo1.out k hk2).1; have := b03.out.size; have := hB3.out; omega))
      replace cS2 := Lib.hid cS2; replace hbw := Lib.hid hbw
      clear hRb hRv
      go_wp2_with fail
      refine cS2.out.mono ?_
      rintro e w9 ⟨rfl, b9⟩
      have b09 := Lib.hid (hbw.out.trans (b9.mono hbw.out.size))
      clear b9 cS2
      go_wp2_with fail
      go_ret
      exact ⟨rfl, b09.out⟩
theorem law19_NotesOf (s : ByteArray) (w : World) (hT : Clas w ∧ ErrT w) : Calls Tryz.prog 3 #[.string s] w fun e w' => e = .returned (.bool true) ∧ Below w.heap.size w w' := by
  by_cases hs : 2097152 < s.size
  · exact law19_big s hs w hT.1
  · by_cases h0 : (allV s).2.1 = 0
    · exact law19_ok s (by omega) h0 w hT.1
    · exact law19_no s (by omega) h0 w hT.1 hT.2
end Go.Proofs.YtdphhmigbbgjmaaGreatDoor
end
