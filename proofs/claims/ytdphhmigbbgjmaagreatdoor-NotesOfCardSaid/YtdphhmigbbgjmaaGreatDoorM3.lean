/- What package scan calls, in the form of the print: char.Next, place.Advance, strings.Count, TrimLeft, TrimRight, IndexByte, class.Letter, class.Part. class.Sign, class.IsKey, scan.next. -/
import Derived.Test.YtdphhmigbbgjmaaGreatDoorM2
import Derived.Test.YtdphhmigbbgjmaaGreatDoorBeside
import Derived.Test.YtdphhmigbbgjmaaGreatDoorShelf
import Derived.Test.YtdphhmigbbgjmaaGreatDoorWWords
import Derived.Lib.TrimU
section
namespace Go.Proofs.YtdphhmigbbgjmaaGreatDoor
open Go.RowKit Go.Lib
attribute [local go_sem] byteAt_get wrap64_byteAt
theorem char_Next_no (s : ByteArray) (a : Int) (w : World) (ha : a < 0 ∨ (s.size : Int) ≤ a) :
    Calls Tryz.prog 86 #[.string s, .int .i64 a] w fun e w' => e = .returned (.tuple #[.int .i64 0, .int .i64 0, .bool false]) ∧ Below w.heap.size w w' := by
  rcases ha with h | h
  · go_enter Tryz.func86, Tryz.ntmps86
    go_wp2_with fail
    go_ret3
    exact ⟨rfl, Below.refl _ _⟩
  · by_cases h0 : a < 0
    · go_enter Tryz.func86, Tryz.ntmps86
      go_wp2_with fail
      go_ret3
      exact ⟨rfl, Below.refl _ _⟩
    · go_enter Tryz.func86, Tryz.ntmps86
      go_wp2_with fail
      go_ret3
      exact ⟨rfl, Below.refl _ _⟩
def nxT (s : ByteArray) (a : Int) : Int × Int × Bool := if 0 ≤ a ∧ a < (s.size : Int) then (((Utf8.decode s a.toNat).1 : Int), ((Utf8.decode s a.toNat).2 : Int), okC (Utf8.decode s a.toNat)) else (0, 0, false)
def char_Next.f (a0 : ByteArray) (a1 : Int) : Option (Int × Int × Bool) := if a0.size < 4611686018427387904 then some (nxT a0 a1) else none
theorem char_Next.calls (a0 : ByteArray) (a1 : Int) (r1 : Int) (r2 : Int) (r3 : Bool) (w : World) (h : char_Next.f a0 a1 = some (r1, r2, r3)) :
    Calls Tryz.prog 86 #[.string a0, .int .i64 a1] w fun e w' => e = .returned (.tuple #[.int .i64 r1, .int .i64 r2, .bool r3]) ∧ Below w.heap.size w w' := by
  unfold char_Next.f at h
  by_cases hs : a0.size < 4611686018427387904
  · rw [if_pos hs] at h
    unfold nxT at h
    by_cases hr : 0 ≤ a1 ∧ a1 < (a0.size : Int)
    · rw [if_pos hr] at h
      obtain ⟨n, rfl⟩ : ∃ n : Nat, a1 = n := ⟨a1.toNat, by omega⟩
      simp only [Int.toNat_natCast, Option.some.injEq, Prod.mk.injEq] at h
      obtain ⟨rfl, rfl, rfl⟩ := h
      exact char_Next a0 n w (by omega) hs
    · rw [if_neg hr] at h
      simp only [Option.some.injEq, Prod.mk.injEq] at h
      obtain ⟨rfl, rfl, rfl⟩ := h
      exact char_Next_no a0 a1 w (by omega)
  · rw [if_neg hs] at h; cases h
def advT (a l c : Int) (s : ByteArray) : Int × Int × Int := (wrap64 (a + s.size), wrap64 (l + nlAt s s.size), wrap64 (colI (nlAt s s.size) c + tailC s))
def place_Advance.f (a0_0 : Int) (a0_1 : Int) (a0_2 : Int) (a1 : ByteArray) : Option (Int × Int × Int) := if a1.size < 4611686018427387904 then some (advT a0_0 a0_1 a0_2 a1) else none
theorem place_Advance.calls (a0_0 : Int) (a0_1 : Int) (a0_2 : Int) (a1 : ByteArray) (r1 : Int) (r2 : Int) (r3 : Int) (w : World) (h : place_Advance.f a0_0 a0_1 a0_2 a1 = some (r1, r2, r3)) :
    Calls Tryz.prog 39 #[.agg #[.int .i64 a0_0, .int .i64 a0_1, .int .i64 a0_2], .string a1] w fun e w' => e = .returned (.agg #[.int .i64 r1, .int .i64 r2, .int .i64 r3]) ∧ Below w.heap.size w w' := by
  unfold place_Advance.f at h
  by_cases hs : a1.size < 4611686018427387904
  · rw [if_pos hs] at h
    simp only [advT, Option.some.injEq, Prod.mk.injEq] at h
    obtain ⟨rfl, rfl, rfl⟩ := h
    exact place_Advance a0_0 a0_1 a0_2 a1 w hs
  · rw [if_neg hs] at h; cases h
def strings_Count.f (a0 a1 : ByteArray) : Option Int := if a1 = ⟨#[10]⟩ then some (Lib.countByte a0.data.toList 10) else none
theorem strings_Count.calls (a0 a1 : ByteArray) (r : Int) (w : World) (h : strings_Count.f a0 a1 = some r) :
    Calls Tryz.prog 38 #[.string a0, .string a1] w fun e w' => e = .returned (.int .i64 r) ∧ Below w.heap.size w w' := by
  unfold strings_Count.f at h
  by_cases h1 : a1 = ⟨#[10]⟩
  · rw [if_pos h1] at h
    obtain rfl := Option.some.inj h
    subst h1
    refine (Tryz.strings_Count_one a0 10 w).mono ?_
    rintro e w' ⟨rfl, rfl⟩
    exact ⟨rfl, Below.refl _ _⟩
  · rw [if_neg h1] at h; cases h
def strings_IndexByte.f (a0 : ByteArray) (a1 : Int) : Option Int := some (Lib.indexByte a0.data.toList a1.toNat.toUInt8)
theorem infoSet : (Tryz.prog.info? 127).map (fun i => (i.zero, i.size)) = some (some (.agg (Array.replicate 256 (.bool false))), 256) := by kernel_rfl
def asciiB (l : List UInt8) : Bool := l.all fun b => b.toNat < 128
theorem asciiB_all {l : List UInt8} (h : asciiB l = true) : ∀ (j : Nat) b, l[j]? = some b → b.toNat < 128 := fun j b hb => by
  have := List.all_eq_true.1 h b (List.mem_of_getElem? hb)
  simpa using this
def strings_TrimLeft.f (a0 a1 : ByteArray) : Option ByteArray := if a1.size < 256 ∧ asciiB a1.data.toList = true then some ⟨(Lib.trimLeftS a0.data.toList a1.data.toList).toArray⟩ else none
theorem strings_TrimLeft.calls (a0 a1 : ByteArray) (r : ByteArray) (w : World) (h : strings_TrimLeft.f a0 a1 = some r) :
    Calls Tryz.prog 37 #[.string a0, .string a1] w fun e w' => e = .returned (.string r) ∧ Below w.heap.size w w' := by
  unfold strings_TrimLeft.f at h
  by_cases h1 : a1.size < 256 ∧ asciiB a1.data.toList = true
  · rw [if_pos h1] at h
    obtain rfl := Option.some.inj h
    exact Any.strings_TrimLeft_laid Tryz.lays161 infoSet a0 a1 w (by omega) (asciiB_all h1.2)
  · rw [if_neg h1] at h; cases h
def strings_TrimRight.f (a0 a1 : ByteArray) : Option ByteArray := if a0.size ≤ 9223372036854775807 ∧ a1.size < 256 ∧ asciiB a1.data.toList = true then some ⟨(Lib.trimRightS a0.data.toList a1.data.toList).toArray⟩ else none
theorem strings_TrimRight.calls (a0 a1 : ByteArray) (r : ByteArray) (w : World) (h : strings_TrimRight.f a0 a1 = some r) :
    Calls Tryz.prog 41 #[.string a0, .string a1] w fun e w' => e = .returned (.string r) ∧ Below w.heap.size w w' := by
  unfold strings_TrimRight.f at h
  by_cases h1 : a0.size ≤ 9223372036854775807 ∧ a1.size < 256 ∧ asciiB a1.data.toList = true
  · rw [if_pos h1] at h
    obtain rfl := Option.some.inj h
    exact Any.strings_TrimRight_laid Tryz.lays162 infoSet a0 a1 w h1.1 (by omega) (asciiB_all h1.2.2)
  · rw [if_neg h1] at h; cases h
def class_Letter.f (a0 : Int) : Option Bool := some (ltrB a0)
theorem class_Letter.calls (a0 : Int) (r : Bool) (w : World) (h : class_Letter.f a0 = some r) (hT : Clas w) :
    Calls Tryz.prog 64 #[.int .i64 a0] w fun e w' => e = .returned (.bool r) ∧ Below w.heap.size w w' := by
  obtain rfl := Option.some.inj h
  exact class_Letter a0 w hT
def class_Part.f (a0 : Int) : Option Bool := some (partB a0)
end Go.Proofs.YtdphhmigbbgjmaaGreatDoor
end
section
namespace Go.Proofs.YtdphhmigbbgjmaaGreatDoor
open Go.RowKit Go.Lib
attribute [local go_sem] byteAt_get wrap64_byteAt
set_option linter.unusedVariables false
set_option linter.unusedSimpArgs false
def sgsL : Bs := [59, 46, 44, 58, 61, 35, 60, 62, 40, 41, 91, 93, 43, 45, 42, 47, 37]
/-- The sign that a text begins with. -/
def signL (l : Bs) : Bs := if Lib.hasPrefix l [58, 61] = true then [58, 61] else if Lib.hasPrefix l [46, 46] = true then [46, 46] else if Lib.hasPrefix l [60, 61] = true then [60, 61] else if Lib.hasPrefix l [62, 61] = true then [62, 61] else
  match l with
  | [] => []
  | c :: _ => if 0 ≤ Lib.indexByte sgsL c then [c] else []
/-- The first signs of two bytes are none. -/
def NoP (t : ByteArray) (i : Nat) : Prop := (0 < i → Lib.hasPrefix t.data.toList [58, 61] = false) ∧ (1 < i → Lib.hasPrefix t.data.toList [46, 46] = false) ∧ (2 < i → Lib.hasPrefix t.data.toList [60, 61] = false) ∧ (3 < i → Lib.hasPrefix t.data.toList [62, 61] = false)
def signS (s : ByteArray) (a : Int) : ByteArray := if 0 ≤ a ∧ a < (s.size : Int) then ⟨(signL (s.data.toList.drop a.toNat)).toArray⟩ else ⟨#[]⟩
set_option maxHeartbeats 4000000 in
theorem class_Sign (s : ByteArray) (a : Int) (w : World) (hs : s.size < 4611686018427387904) :
    Calls Tryz.prog 71 #[.string s, .int .i64 a] w fun e w' => e = .returned (.string (signS s a)) ∧ Below w.heap.size w w' := by
  by_cases h0 : a < 0
  · have e1 : signS s a = ⟨#[]⟩ := by unfold signS; rw [if_neg (by omega)]
    replace e1 := Lib.hid e1
    go_enter Tryz.func71, Tryz.ntmps71
    go_wp2_with fail
    go_ret
    exact ⟨by rw [e1.out]; rfl, Below.refl _ _⟩
  obtain ⟨n, rfl⟩ : ∃ n : Nat, a = n := ⟨a.toNat, by omega⟩
  by_cases h1 : (s.size : Int) ≤ n
  · have e1 : signS s n = ⟨#[]⟩ := by unfold signS; rw [if_neg (by omega)]
    replace e1 := Lib.hid e1
    have h1' : s.size ≤ n := by omega
    have h2 : ¬ ((n : Int) < 0) := h0
    go_enter Tryz.func71, Tryz.ntmps71
    go_wp2_with fail
    go_ret
    exact ⟨by rw [e1.out]; rfl, Below.refl _ _⟩
  have e1 : signS s n = ⟨(signL (s.data.toList.drop n)).toArray⟩ := by unfold signS; rw [if_pos (by omega)]; rfl
  have hlt : n < s.size := by omega
  have hlt' : (n : Int) < s.size := by omega
  have hle' : (n : Int) ≤ s.size := by omega
  have hn0 : (0 : Int) ≤ n := by omega
  have htl : (s.extract n s.size).data.toList = s.data.toList.drop n := by rw [extract_list]; simp; exact List.take_of_length_le (by rw [List.length_drop, size_len]; exact Nat.le_refl _)
  have hts : (s.extract n s.size).size = s.size - n := by simp
  obtain ⟨t, ht⟩ : ∃ t, s.extract n s.size = t := ⟨_, rfl⟩
  rw [ht] at htl hts
  have hpos : 0 < t.size := by omega
  have hpos' : (0 : Int) < t.size := by omega
  have hpos1 : (1 : Int) ≤ t.size := by omega
  rw [← htl] at e1
  replace e1 := Lib.hid e1; replace htl := Lib.hid htl; replace hts := Lib.hid hts
  have hc : ∃ c r, t.data.toList = c :: r := by
    cases h : t.data.toList with
    | nil => have := size_len t; rw [h] at this; simp at this; omega
    | cons c r => exact ⟨c, r, rfl⟩
  obtain ⟨c, r, hcr⟩ := hc
  have hx : byteAt t 0 = c.toNat := by unfold byteAt; rw [hcr]; rfl
  replace hx := Lib.hid hx
  have hone : Hid ((t.extract 0 1) = ⟨#[c]⟩) := Lib.hid (by
    have h3 : (t.extract 0 1).data.toList = [c] := by rw [extract_list]; simp [hcr]
    cases h4 : t.extract 0 1 with
    | mk d => rw [h4] at h3; simp at h3; rw [show d = #[c] from by rw [← Array.toArray_toList (xs := d)]; simp [h3]])
  replace hcr := Lib.hid hcr
  have hsg : Hid (signL t.data.toList = if Lib.hasPrefix t.data.toList [58, 61] = true then [58, 61] else if Lib.hasPrefix t.data.toList [46, 46] = true then [46, 46] else if Lib.hasPrefix t.data.toList [60, 61] = true then [60, 61] else if Lib.hasPrefix t.data.toList [62, 61] = true then [62, 61] else if 0 ≤ Lib.indexByte sgsL c then [c] else []) := Lib.hid (by unfold signL; rw [hcr.out])
  generalize signL t.data.toList = R at hsg e1
  generalize signS s n = R2 at e1
  have b0 : Below w.heap.size w (w.alloc (.cells #[.string ⟨#[58, 61]⟩, .string ⟨#[46, 46]⟩, .string ⟨#[60, 61]⟩, .string ⟨#[62, 61]⟩] 9)) := (Below.refl _ _).alloc (Nat.le_refl _) _
  go_enter Tryz.func71, Tryz.ntmps71
  go_wp2_with fail
  replace ht := Lib.hid ht
  go_loop [20] (fun iv => ∃ i : Nat, iv = .int .i64 i ∧ i ≤ 4 ∧ NoP t i) (fun iv => 4 - (RowKit.intOf iv).toNat)
  case atStart => exact ⟨0, rfl, by omega, ⟨by omega, by omega, by omega, by omega⟩⟩
  case round =>
    obtain ⟨i, rfl, hi, hno⟩ := hrel
    rcases (by omega : i = 0 ∨ i = 1 ∨ i = 2 ∨ i = 3 ∨ i = 4) with rfl | rfl | rfl | rfl | rfl
    · cases hp : Lib.hasPrefix t.data.toList [58, 61]
      · have hp' := Lib.hid hp
        go_wp2_with (go_at_call 69; refine (Tryz.strings_HasPrefix _ _ _).mono ?_; rintro e w' ⟨rfl, rfl⟩)
        go_round
        case rel => exact ⟨1, rfl, by omega, ⟨fun _ => hp'.out, by omega, by omega, by omega⟩⟩
        case measure => simp [RowKit.intOf]
      · replace hsg := hsg.out
        rw [hp, if_pos rfl] at hsg
        replace hsg := Lib.hid hsg
        go_wp2_with (go_at_call 69; refine (Tryz.strings_HasPrefix _ _ _).mono ?_; rintro e w' ⟨rfl, rfl⟩)
        go_ret
        exact ⟨by rw [e1.out, hsg.out]; rfl, b0⟩
    · cases hp : Lib.hasPrefix t.data.toList [46, 46]
      · have hp' := Lib.hid hp
        go_wp2_with (go_at_call 69; refine (Tryz.strings_HasPrefix _ _ _).mono ?_; rintro e w' ⟨rfl, rfl⟩)
        go_round
        case rel => exact ⟨2, rfl, by omega, ⟨fun _ => hno.1 (by omega), fun _ => hp'.out, by omega, by omega⟩⟩
        case measure => simp [RowKit.intOf]
      · replace hsg := hsg.out
        rw [hno.1 (by omega), if_neg (by simp), hp, if_pos rfl] at hsg
        replace hsg := Lib.hid hsg
        go_wp2_with (go_at_call 69; refine (Tryz.strings_HasPrefix _ _ _).mono ?_; rintro e w' ⟨rfl, rfl⟩)
        go_ret
        exact ⟨by rw [e1.out, hsg.out]; rfl, b0⟩
    · cases hp : Lib.hasPrefix t.data.toList [60, 61]
      · have hp' := Lib.hid hp
        go_wp2_with (go_at_call 69; refine (Tryz.strings_HasPrefix _ _ _).mono ?_; rintro e w' ⟨rfl, rfl⟩)
        go_round
        case rel => exact ⟨3, rfl, by omega, ⟨fun _ => hno.1 (by omega), fun _ => hno.2.1 (by omega), fun _ => hp'.out, by omega⟩⟩
        case measure => simp [RowKit.intOf]
      · replace hsg := hsg.out
        rw [hno.1 (by omega), if_neg (by simp), hno.2.1 (by omega), if_neg (by simp), hp, if_pos rfl] at hsg
        replace hsg := Lib.hid hsg
        go_wp2_with (go_at_call 69; refine (Tryz.strings_HasPrefix _ _ _).mono ?_; rintro e w' ⟨rfl, rfl⟩)
        go_ret
        exact ⟨by rw [e1.out, hsg.out]; rfl, b0⟩
    · cases hp : Lib.hasPrefix t.data.toList [62, 61]
      · have hp' := Lib.hid hp
        go_wp2_with (go_at_call 69; refine (Tryz.strings_HasPrefix _ _ _).mono ?_; rintro e w' ⟨rfl, rfl⟩)
        go_round
        case rel => exact ⟨4, rfl, by omega, ⟨fun _ => hno.1 (by omega), fun _ => hno.2.1 (by omega), fun _ => hno.2.2.1 (by omega), fun _ => hp'.out⟩⟩
        case measure => simp [RowKit.intOf]
      · replace hsg := hsg.out
        rw [hno.1 (by omega), if_neg (by simp), hno.2.1 (by omega), if_neg (by simp), hno.2.2.1 (by omega), if_neg (by simp), hp, if_pos rfl] at hsg
        replace hsg := Lib.hid hsg
        go_wp2_with (go_at_call 69; refine (Tryz.strings_HasPrefix _ _ _).mono ?_; rintro e w' ⟨rfl, rfl⟩)
        go_ret
        exact ⟨by rw [e1.out, hsg.out]; rfl, b0⟩
    · replace hsg := hsg.out
      rw [hno.1 (by omega), if_neg (by simp), hno.2.1 (by omega), if_neg (by simp), hno.2.2.1 (by omega), if_neg (by simp), hno.2.2.2 (by omega), if_neg (by simp)] at hsg
      have hib : Lib.indexByte (ByteArray.mk #[59, 46, 44, 58, 61, 35, 60, 62, 40, 41, 91, 93, 43, 45, 42, 47, 37]).data.toList ((byteAt t 0 : Nat) : Int).toNat.toUInt8 = Lib.indexByte sgsL c := by rw [hx.out]; simp [sgsL]
      by_cases hq : 0 ≤ Lib.indexByte sgsL c
      · rw [if_pos hq] at hsg
        replace hsg := Lib.hid hsg
        have cI := Tryz.strings_IndexByte ⟨#[59, 46, 44, 58, 61, 35, 60, 62, 40, 41, 91, 93, 43, 45, 42, 47, 37]⟩ (byteAt t 0 : Nat)
        rw [hib] at cI
        obtain ⟨q, hq0⟩ : ∃ q, Lib.indexByte sgsL c = q := ⟨_, rfl⟩
        rw [hq0] at cI hq
        replace hq0 := Lib.hid hq0; replace cI := Lib.hid cI; replace hib := Lib.hid hib
        go_wp2_with (go_at_call 91; refine (cI.out _).mono ?_; rintro e w' ⟨rfl, rfl⟩)
        go_ret
        exact ⟨by rw [e1.out, hsg.out]; exact congrArg (fun x => Ending.returned (.string x)) hone.out, b0⟩
      · rw [if_neg hq] at hsg
        replace hsg := Lib.hid hsg
        have cI := Tryz.strings_IndexByte ⟨#[59, 46, 44, 58, 61, 35, 60, 62, 40, 41, 91, 93, 43, 45, 42, 47, 37]⟩ (byteAt t 0 : Nat)
        rw [hib] at cI
        obtain ⟨q, hq0⟩ : ∃ q, Lib.indexByte sgsL c = q := ⟨_, rfl⟩
        rw [hq0] at cI hq
        replace hq0 := Lib.hid hq0; replace cI := Lib.hid cI; replace hib := Lib.hid hib
        go_wp2_with (go_at_call 91; refine (cI.out _).mono ?_; rintro e w' ⟨rfl, rfl⟩)
        go_ret
        exact ⟨by rw [e1.out, hsg.out]; rfl, b0⟩
def keysL : List ByteArray := [⟨#[97, 110, 100]⟩, ⟨#[97, 114, 114, 97, 121]⟩, ⟨#[98, 101, 103, 105, 110]⟩, ⟨#[99, 111, 110, 115, 116]⟩, ⟨#[100, 111]⟩, ⟨#[101, 108, 105, 102]⟩, ⟨#[101, 108, 115, 101]⟩, ⟨#[101, 110, 100]⟩, ⟨#[102, 111, 114]⟩, ⟨#[105, 102]⟩, ⟨#[110, 111, 116]⟩, ⟨#[111, 102]⟩, ⟨#[111, 114]⟩, ⟨#[112, 114, 111, 99]⟩, ⟨#[112, 114, 111, 103, 114, 97, 109]⟩, ⟨#[114, 101, 99, 111, 114, 100]⟩, ⟨#[114, 101, 112, 101, 97, 116]⟩, ⟨#[114, 101, 116, 117, 114, 110]⟩, ⟨#[115, 107, 105, 112]⟩, ⟨#[116, 104, 101, 110]⟩, ⟨#[116, 111]⟩, ⟨#[117, 110, 116, 105, 108]⟩, ⟨#[118, 97, 114]⟩, ⟨#[119, 104, 105, 108, 101]⟩]
def keyB (s : ByteArray) : Bool := Lib.containsS keysL s
theorem class_Keys (w : World) : Calls Tryz.prog 102 #[] w fun e w' => e = .returned (.slice (some ⟨w.heap.size, 0, none⟩) 24 24) ∧ w' = w.alloc (.cells (keysL.map Value.string).toArray 9) := by
  go_enter Tryz.func102, Tryz.ntmps102
  go_wp2_with fail
  go_ret
  exact ⟨rfl, rfl⟩
theorem class_IsKey (s : ByteArray) (w : World) : Calls Tryz.prog 88 #[.string s] w fun e w' => e = .returned (.bool (keyB s)) ∧ Below w.heap.size w w' := by
  have cC : ∀ W W' : World, W' = W.alloc (.cells (keysL.map Value.string).toArray 9) → Calls Tryz.prog 101 #[.slice (some ⟨W.heap.size, 0, none⟩) 24 24, .string s] W' fun e w' => e = .returned (.bool (keyB s)) ∧ w' = W' := fun W W' hW => by
    have := Tryz.slices_Contains_string W.heap.size 0 24 24 keysL s W' (by decide) (by omega) (fun j hj => by
      subst hW
      have hB := Blk.new W (keysL.map Value.string).toArray 9
      rw [Nat.zero_add, hB.cell j]
      simp [List.getElem?_eq_getElem hj, List.getD_eq_getElem?_getD])
    rwa [show List.take 24 keysL = keysL from rfl] at this
  replace cC := Lib.hid cC
  go_enter Tryz.func88, Tryz.ntmps88
  go_wp2_with fail
  refine (class_Keys w).mono ?_
  rintro e w1 ⟨rfl, hw1⟩
  have hb : Below w.heap.size w w1 := by rw [hw1]; exact (Below.refl _ _).alloc (Nat.le_refl _) _
  replace hw1 := Lib.hid hw1
  go_wp2_with fail
  refine (cC.out w w1 hw1.out).mono ?_
  rintro e w2 ⟨rfl, rfl⟩
  go_wp2_with fail
  go_ret
  exact ⟨rfl, hb⟩
theorem dec_four (s : ByteArray) (a : Nat) : (Utf8.decode s a).2 ≤ 4 := by
  by_cases hg : goodAt s a
  · rw [(dec_good s a hg).1]
    rcases long_cases (byteAt s a) with h | h | h | h | h <;> simp only <;> omega
  · rw [dec_bad s a hg]; decide
theorem nxT_bd (s : ByteArray) (a : Int) : 0 ≤ (nxT s a).1 ∧ (nxT s a).1 ≤ 1114111 ∧ 0 ≤ (nxT s a).2.1 ∧ (nxT s a).2.1 ≤ 4 ∧ ((nxT s a).2.1 = 0 ↔ ¬ (0 ≤ a ∧ a < (s.size : Int))) ∧ (0 ≤ a → a ≤ (s.size : Int) → a + (nxT s a).2.1 ≤ (s.size : Int)) := by
  unfold nxT
  by_cases h : 0 ≤ a ∧ a < (s.size : Int)
  · rw [if_pos h]
    have h1 := dec_pos s a.toNat
    have h2 := dec_le s a.toNat (by omega)
    have h3 := decode_le s a.toNat
    simp only
    refine ⟨by omega, ?_, by omega, ?_, by omega, fun _ _ => by omega⟩
    · have := decodeL_rune (s.data.toList.drop a.toNat); rw [decodeL_drop] at this; omega
    · have := dec_four s a.toNat; omega
  · rw [if_neg h]; simp only
    exact ⟨by omega, by omega, by omega, by omega, by simp [h], by omega⟩
theorem scan_next (s : ByteArray) (a : Int) (w : World) (hs : s.size < 4611686018427387904) :
    Calls Tryz.prog 63 #[.string s, .int .i64 a] w fun e w' => e = .returned (.tuple #[.int .i32 (nxT s a).1, .int .i64 (nxT s a).2.1, .bool (nxT s a).2.2]) ∧ Below w.heap.size w w' := by
  have hb := nxT_bd s a
  have cN := fun w => char_Next.calls s a (nxT s a).1 (nxT s a).2.1 (nxT s a).2.2 w (by unfold char_Next.f; rw [if_pos hs])
  obtain ⟨p, n, g, hpn⟩ : ∃ p n g, nxT s a = (p, n, g) := ⟨_, _, _, rfl⟩
  rw [hpn] at cN hb ⊢
  simp only at cN hb ⊢
  obtain ⟨h1, h2, h3, h4, _, _⟩ := hb
  replace cN := Lib.hid cN; replace hpn := Lib.hid hpn
  go_enter Tryz.func63, Tryz.ntmps63
  go_wp2_with fail
  refine (cN.out w).mono ?_
  rintro e w1 ⟨rfl, hb⟩
  go_wp2_with fail
  go_ret3
  exact ⟨rfl, hb⟩
end Go.Proofs.YtdphhmigbbgjmaaGreatDoor
end
