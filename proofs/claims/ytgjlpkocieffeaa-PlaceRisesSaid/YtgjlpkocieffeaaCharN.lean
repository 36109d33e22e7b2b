/- char.Next tells the model's own decoding of a character. Condition: the place lies within the text. -/
import Derived.Test.YtgjlpkocieffeaaCol
import Derived.Test.YtgjlpkocieffeaaHeap
import Derived.Test.YtgjlpkocieffeaaShelf
import Derived.Test.YtgjlpkocieffeaaRef01P
import Derived.Laws.RangeAny
namespace Go.Proofs.Ytgjlpkocieffeaa
open Go.RowKit Go.Lib
theorem hasPrefix3 (l : Bs) (a b c : UInt8) : Lib.hasPrefix l [a, b, c] = true ↔ ∃ t, l = a :: b :: c :: t := by
  unfold Lib.hasPrefix
  rw [List.isPrefixOf_iff_prefix]
  constructor
  · rintro ⟨t, rfl⟩; exact ⟨t, rfl⟩
  · rintro ⟨t, rfl⟩; exact ⟨t, rfl⟩
theorem dec_fffd' (t : Bs) : decodeL (239 :: 191 :: 189 :: t) = (65533, 3) := by
  have h : decodeL (239 :: 191 :: 189 :: t) = decodeN (t.length + 3) 239 191 189 ((239 :: 191 :: 189 :: t).getD 3 0 : UInt8).toNat := decL_N _
  rw [h, decodeN_g3 _ _ _ _ _ ⟨by omega, by omega, by omega, by omega, by omega, ⟨by omega, by omega, by omega, by omega⟩, by omega, by omega⟩]
theorem bad_prefix (l : Bs) (hne : l ≠ []) (h : (decodeL l).1 = 65533) : Lib.hasPrefix l [239, 191, 189] = okC (decodeL l) := by
  have hd := decL_N l
  by_cases hp : Lib.hasPrefix l [239, 191, 189] = true
  · obtain ⟨t, rfl⟩ := (hasPrefix3 l 239 191 189).1 hp
    rw [hp, dec_fffd']; rfl
  · have hp' : Lib.hasPrefix l [239, 191, 189] = false := by simpa using hp
    rw [hp']
    by_cases hg : goodN l.length (l.getD 0 0).toNat (l.getD 1 0).toNat (l.getD 2 0).toNat (l.getD 3 0).toNat
    · exfalso
      rcases hg with g | g | g | g
      · rw [hd, decodeN_g1 _ _ _ _ _ g] at h; simp only at h; omega
      · rw [hd, decodeN_g2 _ _ _ _ _ g] at h; simp only at h; omega
      · rw [hd, decodeN_g3 _ _ _ _ _ g] at h
        simp only at h
        apply hp
        rw [hasPrefix3]
        have e0 : (l.getD 0 0).toNat = 239 := by omega
        have e1 : (l.getD 1 0).toNat = 191 := by omega
        have e2 : (l.getD 2 0).toNat = 189 := by omega
        match l, g.2.2.1 with
        | x :: y :: z :: t, _ =>
          simp at e0 e1 e2
          exact ⟨t, by rw [UInt8.toNat_inj.1 (show x.toNat = (239 : UInt8).toNat from e0), UInt8.toNat_inj.1 (show y.toNat = (191 : UInt8).toNat from e1), UInt8.toNat_inj.1 (show z.toNat = (189 : UInt8).toNat from e2)]⟩
      · rw [hd, decodeN_g4 _ _ _ _ _ g] at h
        obtain ⟨g1, g2, g3, g4, g5, g6, g7⟩ := g
        unfold secP at g6
        simp only at h; omega
    · rw [hd, decodeN_bad _ _ _ _ _ (gd_lt _ _) (gd_lt _ _) (gd_lt _ _) (gd_lt _ _) hg]; rfl
theorem dec_fffd (l : Bs) (h : Lib.hasPrefix l [239, 191, 189] = true) : decodeL l = (65533, 3) := by
  obtain ⟨t, rfl⟩ := (hasPrefix3 l 239 191 189).1 h
  exact dec_fffd' t
set_option maxHeartbeats 1000000 in
theorem char_Next (s : ByteArray) (a : Nat) (w : World) (ha : a < s.size) (hs : s.size < 4611686018427387904) :
    Calls Try.prog 17 #[.string s, .int .i64 a] w fun e w' => e = .returned (nextV s a) ∧ Below w.heap.size w w' := by
  obtain ⟨t, ht⟩ : ∃ t, t = s.extract a s.size := ⟨_, rfl⟩
  have htl : t.data.toList = s.data.toList.drop a := by rw [ht, extract_list]; simp; exact List.take_of_length_le (by rw [List.length_drop, size_len]; exact Nat.le_refl _)
  have hts : t.size = s.size - a := by rw [ht]; simp
  have hne := drop_ne s a ha
  have hdt : decodeL t.data.toList = Utf8.decode s a := by rw [htl, decodeL_drop]
  have hdt0 : Utf8.decode t 0 = Utf8.decode s a := by rw [← decodeL_drop t 0, List.drop_zero, hdt]
  obtain ⟨p, n, hpn⟩ : ∃ p n, Utf8.decode s a = (p, n) := ⟨_, _, rfl⟩
  have fin : Hid (nextV s a = .tuple #[.int .i64 p, .int .i64 n, .bool (okC (p, n))]) := by unfold nextV; rw [hpn]; exact Lib.hid rfl
  have hple : p ≤ 2147483647 := by have := decode_le s a; rw [hpn] at this; exact this
  have hnx : ∀ ty, (Instr.next (.pointer (some ⟨w.heap.size, 0, none⟩)) true ty).run Try.prog (w.iter t 0) = .ok (.tuple #[.bool true, .int .i64 0, .int .i32 p]) (w.iter t n) := fun ty => by
    have := run_next_any (P := Try.prog) w t 0 ty (by omega); rw [hdt0, hpn] at this; simpa using this
  have hbp : p = 65533 → Lib.hasPrefix t.data.toList [239, 191, 189] = okC (p, n) := fun h => by
    have := bad_prefix t.data.toList (by rw [htl]; exact hne) (by rw [hdt, hpn]; exact h); rw [this, hdt, hpn]
  have hrl : p ≠ 65533 → Lib.runeLen p = n := fun h => by
    have := runeLen_decode t.data.toList (by rw [hdt, hpn]; exact h); rw [hdt, hpn] at this; exact this
  have hok : p ≠ 65533 → okC (p, n) = true := fun h => by unfold okC; simp [h]
  have hk3 : p = 65533 → okC (p, n) = true → n = 3 := fun h hk => by
    have e1 := hbp h
    rw [hk] at e1
    have := dec_fffd _ e1
    rw [hdt, hpn] at this
    exact congrArg Prod.snd this
  have hbp := Lib.hid hbp; have hrl := Lib.hid hrl; have hok' := Lib.hid hok; have hk3' := Lib.hid hk3
  have hb1 : (0 : Int) ≤ (a : Int) := by omega
  have hb2 : (a : Int) ≤ s.size := by omega
  have hsz1 : s.size < 4611686018427387904 := hs
  have hlt0 : 0 < t.size := by omega
  have hn1 : Hid (Utf8.decode s a = (p, n)) := Lib.hid hpn
  have htx := Lib.hid ht.symm
  clear hdt hdt0 hpn htl hne hts ht hok hk3
  by_cases hp : p = 65533
  · have e1 := hbp.out hp
    have hHP : ∀ W, Calls Try.prog 24 #[.string t, .string ⟨#[239, 191, 189]⟩] W fun e w' => e = .returned (.bool (okC (p, n))) ∧ w' = W := fun W => by
      rw [← e1]; exact Try.strings_HasPrefix t ⟨#[239, 191, 189]⟩ W
    have hrl3 : Lib.runeLen 65533 = 3 := by rfl
    have hrl3 := Lib.hid hrl3
    cases hk : okC (p, n) with
    | true =>
      have e2 := hk3'.out hp hk
      rw [hk] at hHP fin
      subst hp
      subst e2
      have hHP := Lib.hid hHP
      clear hk hrl e1
      go_enter Try.func17, Try.ntmps17
      go_wp2_with fail
      rw [htx.out]
      go_loopw [] (fun wr => wr = w.iter t 0) (fun _ => 0)
      case atStart => rfl
      case round =>
        obtain rfl := hrel
        go_wp2_with (first | (go_at_call 25; refine (Try.utf8_RuneLen _ _).mono ?_; rintro e w' ⟨rfl, rfl⟩; rw [hrl3.out]) | (go_at_call 24; refine (hHP.out _).mono ?_; rintro e w' ⟨rfl, rfl⟩))
        go_ret3
        exact ⟨by rw [fin.out]; rfl, (Below.refl _ _).alloc (Nat.le_refl _) _⟩
    | false =>
      have hn2 : Hid (n = 1) := by
        have := hk; unfold okC at this; rw [hp] at this; simpa [Hid] using this
      rw [hk] at hHP fin
      rw [hn2.out] at fin
      subst hp
      have hHP := Lib.hid hHP
      clear hk hrl e1
      go_enter Try.func17, Try.ntmps17
      go_wp2_with fail
      rw [htx.out]
      go_loopw [] (fun wr => wr = w.iter t 0) (fun _ => 0)
      case atStart => rfl
      case round =>
        obtain rfl := hrel
        go_wp2_with (first | (go_at_call 25; refine (Try.utf8_RuneLen _ _).mono ?_; rintro e w' ⟨rfl, rfl⟩; rw [hrl3.out]) | (go_at_call 24; refine (hHP.out _).mono ?_; rintro e w' ⟨rfl, rfl⟩))
        go_ret3
        exact ⟨by rw [fin.out]; rfl, (Below.refl _ _).alloc (Nat.le_refl _) _⟩
  · have hpi : ((p : Int) == 65533) = false := by simp; omega
    have hrl2 := Lib.hid (hrl.out hp)
    have hok2 := hok'.out hp
    rw [hok2] at fin
    clear hok2
    go_enter Try.func17, Try.ntmps17
    go_wp2_with fail
    rw [htx.out]
    go_loopw [] (fun wr => wr = w.iter t 0) (fun _ => 0)
    case atStart => rfl
    case round =>
      obtain rfl := hrel
      go_wp2_with (go_at_call 25; refine (Try.utf8_RuneLen _ _).mono ?_; rintro e w' ⟨rfl, rfl⟩; rw [hrl2.out])
      go_ret3
      exact ⟨by rw [fin.out]; rfl, (Below.refl _ _).alloc (Nat.le_refl _) _⟩

end Go.Proofs.Ytgjlpkocieffeaa
