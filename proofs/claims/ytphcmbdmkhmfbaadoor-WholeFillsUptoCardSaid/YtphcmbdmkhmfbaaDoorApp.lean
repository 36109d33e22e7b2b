/- append onto a row of the call's own, with one word more: where the new row lies (in the old one's block, or in the block just made). By the elder law's result and the run's own determinism. -/
import Derived.Test.YtphcmbdmkhmfbaaDoorSnk
import Derived.Maps.AppendAt
namespace Go.Proofs.YtphcmbdmkhmfbaaDoor
open Go.RowKit Go.Lib

theorem run_str_at {P : Program} (w : World) (base : Nat) (t u ty e : TypeId) (i : TypeInfo) (ht : P.underlying t = some (.slice e)) (hu : P.underlying u = some .string) (hi : P.info? e = some i) (hz : i.zero = some (.int .u8 0))
    (hsize : i.size = 1) (hby : i.bytes = 1) (v : Value) (n : Nat) (xs : List Value) (hown : w.ownsRow base e 1 v n xs) (s : ByteArray)
    (hbytes : n + s.size ≤ 140737488355328) (hbase : base ≤ w.heap.size) :
    ∃ v' w', (Builtin.append_ #[t, u] ty #[v, .string s]).run P w = .ok v' w' ∧ w'.ownsRow base e 1 v' (n + s.size) (xs ++ strCells s) ∧ w.grownBy w' v.ownBlock ∧ Next w v v' := by
  obtain ⟨v', w', hr, h2, h3, _⟩ := run_append_own_string (P := P) w base t u ty e i ht hu hi hz hsize hby v n xs hown s (by unfold maxLen; omega) hbytes hbase
  refine ⟨v', w', hr, h2, h3, fun k hk => ?_⟩
  rcases hown.2 with ⟨rfl, rfl⟩ | ⟨g, cap, cur, rfl, hbg, hg, hnc, hcm, hcs, htake⟩
  · by_cases hm : s.size = 0
    · rcases h2.2 with ⟨rfl, _⟩ | ⟨g, cap, cur, rfl, hbg, hg, hnc, hcm, hcs, htake⟩
      · cases hk
      · have hf := run_firstCells_string (P := P) w 1 s
        rw [hm] at hf
        simp [Builtin.append_, run_underlying ht, run_underlying hu, sizeOf, typeInfo, hi, hsize, Builtin.lenOf, hm, hf] at hr
    · have h4 := run_append_nil_string (P := P) w t u ty e i (.int .u8 0) ht hu hi hz s (by omega) (by omega) (by rw [hby]; omega)
      rw [h4] at hr
      injection hr with e1 e2
      subst e1
      have hk' : w.heap.size = k := by simpa [Value.ownBlock] using hk
      exact .inr (by omega)
  · by_cases hroom : n + s.size ≤ cap
    · have h4 := run_append_room_string (P := P) w t u ty e i ht hu hi hsize g n cap cur hg s hroom (by omega)
      rw [h4] at hr
      injection hr with e1 e2
      subst e1
      exact .inl hk
    · have holds : ∀ j u, xs[j]? = some u → w.cell? ((⟨g, 0, none⟩ : Addr).add j) = some u := hown.cells (g := g) rfl
      have h4 := run_append_grow_string (P := P) w t u ty e i (.int .u8 0) ht hu hi hz ⟨g, 0, none⟩ n cap xs (by rw [hsize]; exact hown.1) holds s (by omega) (by omega) (by rw [hby]; exact growslice_fits (by omega) (by omega))
      rw [h4] at hr
      injection hr with e1 e2
      subst e1
      have hk' : w.heap.size = k := by simpa [Value.ownBlock] using hk
      exact .inr (by omega)
/-- append(v, t...): a text; and where it lies. -/
theorem app_str_at {w : World} {ops : Array Oper} {rest : List Oper} {o : Oper} {a : Act} {Q : Exit → Act → World → Prop} (hgd : o.guard = none) (s x : Operand)
    (ho : o.op = .call { callee := .builtin .append, args := #[s, x], argTypes := #[39, 9] }) (B : Nat) {v : Value} {l : List UInt8} (hs : a.eval s = v) (t : ByteArray)
    (hown : Buf w B v l) (hx : a.eval x = .string t) (hsz : l.length + t.size ≤ 140737488355328) (hB : B ≤ w.heap.size)
    (h : ∀ v' w', Buf w' B v' (l ++ t.data.toList) → w.grownBy w' v.ownBlock → Next w v v' → wpList Tryd.prog ops Q rest (a.put o.dst v') w') : wpList Tryd.prog ops Q (o :: rest) a w := by
  obtain ⟨i0, hi, hz0, hz1, hz2⟩ := info_parts infoB
  refine wpList_plain hgd fun K hK => ?_
  obtain ⟨v', w', hr, h2, h3, h4⟩ := run_str_at (P := Tryd.prog) w B 39 9 o.type 5 i0 Tryd.underlying39 Tryd.underlying9 hi hz0 hz1 hz2 v l.length (byteCells l) hown t hsz hB
  unfold Oper.wp execOp
  simp only [ho, resolve, invoke, builtin, Sem.run_bind, Sem.run_pure, Result.andThen_ok, List.map_toArray, List.map_cons, List.map_nil, hs, hx, hr]
  exact hK _ _ (h v' w' (by unfold Buf; rw [List.length_append]; simp only [byteCells, List.map_append, Array.length_toList] at h2 ⊢; exact h2) h3 h4)
/-- append(v, c): one byte; and where it lies. -/
theorem app_byte_at {w : World} {ops : Array Oper} {rest : List Oper} {o : Oper} {a : Act} {Q : Exit → Act → World → Prop} (hgd : o.guard = none) (s x : Operand)
    (ho : o.op = .call { callee := .builtin .append, args := #[s, x], argTypes := #[39, 39] }) (B : Nat) {v : Value} {l : List UInt8} (hs : a.eval s = v) (c : UInt8)
    (hown : Buf w B v l) (ad : Addr) (cp : Nat) (hx : a.eval x = .slice (some ad) 1 cp) (hc : w.cell? ad = some (.int .u8 c.toNat)) (hsz : l.length + 1 ≤ 140737488355328) (hB : B ≤ w.heap.size)
    (h : ∀ v' w', Buf w' B v' (l ++ [c]) → w.grownBy w' v.ownBlock → Next w v v' → wpList Tryd.prog ops Q rest (a.put o.dst v') w') : wpList Tryd.prog ops Q (o :: rest) a w := by
  obtain ⟨i0, hi, hz0, hz1, hz2⟩ := info_parts infoB
  refine wpList_append_own_at _ hgd s x 39 ho B 5 i0 (.int .u8 0) 1 1 Tryd.underlying39 hi hz0 hz1 hz2 rfl (by decide) v l.length (byteCells l) hs hown ad 1 cp [.int .u8 c.toNat] hx rfl ?_ (by simp [Value.oneCell']) (by unfold maxLen; omega) (by omega) hB fun v' w' h1 h2 _ h4 => h v' w' ?_ h2 ?_
  · intro j u hj
    match j, hj with
    | 0, hj => simp at hj; subst hj; simpa [Addr.add] using hc
  · unfold Buf; rw [List.length_append]; simpa [byteCells] using h1
  · intro k hk
    rcases h4 with h4 | h4
    · exact .inl (h4 ▸ hk)
    · rw [h4] at hk; injection hk with hk; exact .inr (by omega)
end Go.Proofs.YtphcmbdmkhmfbaaDoor
