/- DocChecks: what is lent, whether it was kept, and the law's body, walked over the printed callees. Condition on memory: the tables of doc and strconv lie as laid. -/
import Derived.Test.YtbdilejhbeffjaaDoorN4
import Derived.Test.YtbdilejhbeffjaaDoorPDoc6
namespace Go.Proofs.YtbdilejhbeffjaaDoor
open Go.RowKit Go.Lib Go.Proofs.YtbdilejhbeffjaaDoorW.PrintWords Go.Proofs.YtbdilejhbeffjaaDoorW.PrintLast Go.Proofs.YtbdilejhbeffjaaDoorW.PrintMore
attribute [local go_sem] byteAt_get wrap64_byteAt
open PDoc
set_option linter.unusedVariables false
set_option linter.unusedSimpArgs false
attribute [local go_sem ↓] cutS_in
/-- The mark behind. -/
def m99 : S33 := ⟨99, (⟨#[]⟩ : ByteArray), 0, 0, false⟩
set_option maxHeartbeats 8000000 in
set_option maxRecDepth 100000 in
theorem lent_c (A0 : Option Addr) (c0 : Nat) (l0 : List S33) (w : World) (hr0 : Kd.C k33 w A0 l0.length l0) (hc0 : l0.length ≤ c0) (hl : l0.length ≤ 2900000000000 + 32031007317) :
    Calls Tryd.prog 22 #[.slice A0 l0.length c0] w fun e w' => ∃ A c, e = .returned (.slice A l0.length c) ∧ Kd.C k33 w' A (l0 ++ [m99]).length (l0 ++ [m99]) ∧ (l0 ++ [m99]).length ≤ c ∧ Below w.heap.size w w' := by
  have hu33 := Tryd.underlying33
  have HR0 := Aside0.mk hr0
  have HC0 := Aside0.mk hc0
  clear hr0 hc0
  have HB := Aside0.mk (Below.refl w.heap.size w)
  obtain ⟨y157, hy157⟩ : ∃ y_ : List (S33), y_ = (([] : List (S33)) ++ l0) := ⟨_, rfl⟩
  have LMc2 := Aside0.mk (show ([] : List (S33)).length + l0.length < 2932031007402 by simp; omega)
  have LMc3 := Aside0.mk (show y157.length < 2932031007402 by rw [hy157]; simp; omega)
  obtain ⟨y160, hy160⟩ : ∃ y_ : List (S33), y_ = (y157 ++ [(⟨99, (⟨#[]⟩ : ByteArray), 0, 0, false⟩ : S33)]) := ⟨_, rfl⟩
  have hyl : Hid (l0 ++ [m99] = y160) := Lib.hid (by rw [hy160, hy157]; rfl)
  have hylen : Hid (y160.length = l0.length + 1) := Lib.hid (by rw [← hyl.out]; simp)
  have c4b0 : (0 ≤ (l0.length : Int)) = True := eq_true (by omega)
  have c4b1 : decide (0 ≤ (l0.length : Int)) = true := decide_eq_true (by omega)
  have c5b0 : ((l0.length : Int) ≤ (y160.length : Int)) = True := eq_true (by have := hylen.out; omega)
  have c5b1 : decide ((l0.length : Int) ≤ (y160.length : Int)) = true := decide_eq_true (by have := hylen.out; omega)
  have Ny157 := Aside0.mk hy157
  have Ny160 := Aside0.mk hy160
  clear hy157 hy160
  go_enter Tryd.func22, Tryd.ntmps22
  go_wp2_with (first | ((with_reducible refine gate_builtin (b := .append) (xs := #[.tmp 4, .tmp 5]) rfl ?_); at_builtin; refine Kd.R_append_rows k33 (w0 := w) w.heap.size rfl (.tmp 4) (.tmp 5) 23 33 (.agg #[(.int .u8 0), (.string ⟨#[]⟩), (.int .i64 0), (.int .i64 0), (.bool false)]) 48 rfl Tryd.underlying23 info33 rfl (by decide) (by omega) (.slice none 0 0) ([] : List (S33)) l0 _ _ _ (fun _ => True) (fun _ => False) rfl rfl ?aO ?aR (fun _ _ h => h) (fun _ h => h.elim) ?aF ?aB ?aS ?aL ?_; (case aR => repeat (first | exact HR0.out | (with_reducible refine Kd.C_alloc ?_ _) | (with_reducible refine Kd.C_drewN ?_ _) | (with_reducible refine Kd.C_drew ?_))); (case aB => exact (by repeat (first | (with_reducible first | exact HB.out | apply below_alloc | apply pw_below_drewN | apply below_drew1) | exact HB.out))); (case aF => exact (fun _ _ => trivial)); (case aO => exact ((Kd.R_nil _ _ _ _ (fun _ => True)))); (case aS => exact (below_size (by repeat (first | (with_reducible first | exact HB.out | apply below_alloc | apply pw_below_drewN | apply below_drew1) | exact HB.out)))); (case aL => have := LMc2.out; omega); intro v158 w6 ho hb hg hat; rw [← Ny157.out] at ho; have n0_ := Aside0.mk (hb); have n1_ := Aside0.mk (ho); clear HB; have HB := n0_; have HO159 := n1_; clear n0_ n1_; clear ho hb hg hat) | ((with_reducible refine gate_builtin (b := .append) (xs := #[.tmp 7, .tmp 9]) rfl ?_); at_builtin; refine Kd.R_append k33 (w0 := w) w.heap.size rfl (.tmp 7) (.tmp 9) 23 33 (.agg #[(.int .u8 0), (.string ⟨#[]⟩), (.int .i64 0), (.int .i64 0), (.bool false)]) 48 rfl Tryd.underlying23 info33 rfl (by decide) (by omega) v158 y157 (⟨99, (⟨#[]⟩ : ByteArray), 0, 0, false⟩ : S33) [.int .u8 99, .string (⟨#[]⟩ : ByteArray), .int .i64 0, .int .i64 0, .bool false] (fun _ => True) (fun _ => False) rfl rfl ?aP (fun _ hk => hk.elim) ?aF ?aO ?aB ?aS ?aL ?_; (case aP => exact k33_mkM _ _ _ (⟨99, (⟨#[]⟩ : ByteArray), 0, 0, false⟩ : S33)); (case aB => exact (by repeat (first | (with_reducible first | exact HB.out | apply below_alloc | apply pw_below_drewN | apply below_drew1) | exact HB.out))); (case aF => exact (fun _ _ => trivial)); (case aO => exact (by (with_reducible repeat (first | apply Kd.R_alloc | apply Kd.R_drewN | apply Kd.R_drew)); exact HO159.out)); (case aS => exact (below_size (by repeat (first | (with_reducible first | exact HB.out | apply below_alloc | apply pw_below_drewN | apply below_drew1) | exact HB.out)))); (case aL => have := LMc3.out; omega); intro v161 w7 ho hb hg hat; rw [← Ny160.out] at ho; have n0_ := Aside0.mk (hb); have n1_ := Aside0.mk (ho); clear HB; clear HO159; have HB := n0_; have HO162 := n1_; clear n0_ n1_; clear ho hb hg hat; obtain ⟨Ao8, co8, eo8⟩ := Kd.R_slice HO162.out; subst eo8; have q9 : ((l0.length : Int) : Int) ≤ ((y160.length : Int) : Int) := of_decide_eq_true (by first | (with_reducible assumption) | assumption); obtain ⟨i09, hi09, _, hsz9, _⟩ := info_parts info33; have hcut9 := cut_to (P := Tryd.prog) 23 33 .i64 Tryd.underlying23 hi09 Ao8 y160.length co8 (l0.length : Int) (of_decide_eq_true (by first | (with_reducible assumption) | assumption)) q9 (Kd.R_reads' HO162.out).2.1; replace q9 := eq_true q9))
  go_ret
  exact ⟨Ao8, co8, by simp, by rw [hyl.out]; exact (Kd.R_reads' HO162.out).2.2, by rw [hyl.out]; exact (Kd.R_reads' HO162.out).2.1, HB.out⟩
theorem own_part {w : World} {A : Option Addr} {l : List S33} (h : Kd.C k33 w A (l ++ [m99]).length (l ++ [m99])) : Kd.C k33 w A l.length l := by
  have := Kd.C_take (m := l.length) h (by simp)
  rwa [List.take_left' rfl] at this
set_option maxHeartbeats 8000000 in
set_option maxRecDepth 100000 in
theorem kept_c (A0 : Option Addr) (c0 : Nat) (l0 : List S33) (A1 : Option Addr) (c1 : Nat) (w : World) (hr0 : Kd.C k33 w A0 (l0 ++ [m99]).length (l0 ++ [m99])) (hc0 : (l0 ++ [m99]).length ≤ c0) (hr1 : Kd.C k33 w A1 l0.length l0) (hc1 : l0.length ≤ c1) (hl : l0.length ≤ 2900000000000 + 32031007317) :
    Calls Tryd.prog 27 #[.slice A0 l0.length c0, .slice A1 l0.length c1] w fun e w' => e = .returned (.bool true) ∧ Drawn0 w w' := by
  have hS := same_self l0 (by omega) (l0.length + 1) (by omega)
  have hT0 := Kd.C_take (m := l0.length) hr0 (by simp)
  rw [List.take_left' rfl] at hT0
  have hc0' : l0.length ≤ c0 := by simp at hc0; omega
  have cS := Lib.hid (colophonref07_Same.calls (l0.length + 1) A0 c0 l0 A1 c1 l0 true w hT0 hc0' hr1 hc1 hS)
  have hW : Hid (wrap64 ((l0.length : Int) + 1) = ((l0.length + 1 : Nat) : Int)) := Lib.hid (by rw [w64 (by omega) (by omega)]; omega)
  have hW2 : IntKind.i64.wrap ((l0.length : Int) + 1) = ((l0.length + 1 : Nat) : Int) := (i64_w _).trans hW.out
  have hk : l0.length + 1 ≤ c0 := by simp at hc0; omega
  obtain ⟨ad, hA, g0, _⟩ := at_T33 hr0 (l0.length : Int) (by omega) (by simp; omega)
  subst hA
  have hg : (rd_T33 (l0 ++ [m99]) (l0.length : Int)).f0 = 99 := by unfold rd_T33; simp [m99]
  rw [hg, Int.toNat_natCast] at g0
  clear hr0 hT0
  go_enter Tryd.func27, Tryd.ntmps27
  go_wp2_with fail
  refine cS.out.mono ?_
  rintro e w1 ⟨rfl, ⟨n, rfl⟩⟩
  have hd : (w.drewN n).heap = w.heap := rfl
  have g1 : (w.drewN n).cell? (ad.add (l0.length * 5)) = some (.int .u8 99) := by
    unfold World.cell? at g0 ⊢
    rw [hd]; exact g0
  go_wp2_with fail
  go_ret
  exact ⟨rfl, ⟨n, rfl⟩⟩
set_option maxHeartbeats 8000000 in
set_option maxRecDepth 100000 in
theorem checks_c (A0 : Option Addr) (c0 : Nat) (l : List S33) (w : World) (hr0 : Kd.C k33 w A0 l.length l) (hc0 : l.length ≤ c0) (hz : ∀ d ∈ l, 0 ≤ d.f0) (hl : l.length ≤ 2900000000000 + 32031007317) (hT : Wrds w) :
    Calls Tryd.prog 9 #[.slice A0 l.length c0] w fun e w' => e = .returned (.bool true) ∧ Below w.heap.size w w' := by
  obtain ⟨c1, c2, hch⟩ : ∃ a b, chkV l = (a, b) := ⟨_, _, rfl⟩
  obtain ⟨t, g, hp⟩ : ∃ t g, doc_Print.f l = some (t, g) := by
    rw [printAny_f l hz]
    split
    · split <;> exact ⟨_, _, rfl⟩
    · exact ⟨_, _, rfl⟩
  have hq := rprint_f l hz (80000 + 2 * l.length) (by omega)
  rw [hp] at hq
  have h1 := check_f l hz (4 * l.length + 10) (by omega)
  have h2 := rcheck_f l hz (4 * l.length + 10) (by omega)
  rw [hch] at h1 h2
  have cL := Lib.hid (lent_c A0 c0 l w hr0 hc0 hl)
  replace hr0 := Lib.hid hr0; replace hT := Lib.hid hT; replace h1 := Lib.hid h1; replace h2 := Lib.hid h2; replace hp := Lib.hid hp; replace hq := Lib.hid hq; replace hch := Lib.hid hch
  go_enter Tryd.func9, Tryd.ntmps9
  go_wp2_with fail
  refine cL.out.mono ?_
  rintro e w1 ⟨A, c, rfl, hC, hc, b1⟩
  have hct : l.length ≤ c := by simp at hc; omega
  clear cL
  replace hC := Lib.hid hC; replace b1 := Lib.hid b1
  have B1 := b1
  have hO1 := Lib.hid (own_part hC.out)
  have cc1 := Lib.hid (doc_Check.calls (4 * l.length + 10) A c l c1 c2 w1 hO1.out hct h1.out)
  go_wp2_with fail
  refine cc1.out.mono ?_
  rintro e w2 ⟨rfl, b2⟩
  replace b2 := Lib.hid b2
  clear cc1
  replace hC := Lib.hid (Kd.C_below hC.out b2.out)
  have B2 := Lib.hid (B1.out.trans (b2.out.mono B1.out.size))
  have hO2 := Lib.hid (own_part hC.out)
  have cc2 := Lib.hid (colophonref07_Check.calls (4 * l.length + 10) A0 c0 l c1 c2 w2 (Kd.C_below hr0.out B2.out) hc0 h2.out)
  go_wp2_with fail
  refine cc2.out.mono ?_
  rintro e w3 ⟨rfl, b3⟩
  replace b3 := Lib.hid b3
  clear cc2
  replace hC := Lib.hid (Kd.C_below hC.out b3.out)
  have B3 := Lib.hid (B2.out.trans (b3.out.mono B2.out.size))
  have hO3 := Lib.hid (own_part hC.out)
  have cc3 := Lib.hid (doc_Print.calls A c l t g w3 hO3.out hct hp.out (hT.out.below B3.out))
  go_wp2_with fail
  refine cc3.out.mono ?_
  rintro e w4 ⟨rfl, b4⟩
  replace b4 := Lib.hid b4
  clear cc3
  replace hC := Lib.hid (Kd.C_below hC.out b4.out)
  have B4 := Lib.hid (B3.out.trans (b4.out.mono B3.out.size))
  have hO4 := Lib.hid (own_part hC.out)
  have cc4 := Lib.hid (colophonref07_Print.calls (80000 + 2 * l.length) A0 c0 l t g w4 (Kd.C_below hr0.out B4.out) hc0 hq.out)
  go_wp2_with fail
  refine cc4.out.mono ?_
  rintro e w5 ⟨rfl, b5⟩
  replace b5 := Lib.hid b5
  clear cc4
  replace hC := Lib.hid (Kd.C_below hC.out b5.out)
  have B5 := Lib.hid (B4.out.trans (b5.out.mono B4.out.size))
  have hO5 := Lib.hid (own_part hC.out)
  have cc5 := Lib.hid (doc_Print.calls A c l t g w5 hO5.out hct hp.out (hT.out.below B5.out))
  go_wp2_with fail
  refine cc5.out.mono ?_
  rintro e w6 ⟨rfl, b6⟩
  replace b6 := Lib.hid b6
  clear cc5
  replace hC := Lib.hid (Kd.C_below hC.out b6.out)
  have B6 := Lib.hid (B5.out.trans (b6.out.mono B5.out.size))
  have hO6 := Lib.hid (own_part hC.out)
  have cc6 := Lib.hid (colophonlaw07_awake.calls 200 true w6 awake7_f (hT.out.below B6.out))
  go_wp2_with fail
  refine cc6.out.mono ?_
  rintro e w7 ⟨rfl, b7⟩
  replace b7 := Lib.hid b7
  clear cc6
  replace hC := Lib.hid (Kd.C_below hC.out b7.out)
  have B7 := Lib.hid (B6.out.trans (b7.out.mono B6.out.size))
  have cK := Lib.hid (kept_c A c l A0 c0 w7 hC.out hc (Kd.C_below hr0.out B7.out) hc0 hl)
  go_wp2_with fail
  refine cK.out.mono ?_
  rintro e w8 ⟨rfl, b8⟩
  go_wp2_with fail
  go_ret
  exact ⟨rfl, B7.out.trans (b8.below.mono B7.out.size)⟩
end Go.Proofs.YtbdilejhbeffjaaDoor
