import Derived.Test.YtlnhecplmppldaaPr0
import Derived.Test.YtlnhecplmppldaaFK
import Derived.WalkKit
import Derived.WalkSpells
import Derived.WalkLawsBesides
import Derived.Deep.QuietTactic
import Derived.Deep.RegionHeld3
import Derived.Deep.RegionHeldLaw
import Derived.BigQuiet
import Derived.Outline
set_option linter.unusedVariables false
set_option linter.unusedSimpArgs false
namespace Go.Proofs.Ytlnhecplmppldaa.Pr
open Go.RowKit Go.Proofs.Fl Go.Proofs.YtlnhecplmppldaaW.PrintWords Go.Proofs.YtlnhecplmppldaaW.PrintLast Go.Proofs.YtlnhecplmppldaaW.PrintMore

theorem frombits_run (v : Int) (w : World) : (callFunc 40 #[.int .u64 v]).run Try.prog w = .ok (.value (.float .f64 v.toNat)) w := by
  rw [run_callFunc_extern Try.func40 (by kernel_rfl) (by kernel_rfl) (by kernel_rfl) (e := Extern.MathFloatBits.float64frombits) (by kernel_rfl)]; rfl
theorem bits_run (b : Nat) (w : World) : (callFunc 23 #[.float .f64 b]).run Try.prog w = .ok (.value (.int .u64 b)) w := by
  rw [run_callFunc_extern Try.func23 (by kernel_rfl) (by kernel_rfl) (by kernel_rfl) (e := Extern.MathFloatBits.float64bits) (by kernel_rfl)]; rfl
attribute [local go_sem] frombits_run bits_run

theorem of_any (t v : Int) (w : World) :
    Calls Try.prog 27 #[.agg #[.int .i64 t, .int .u64 v]] w fun e w' => e = .returned (.float .f64 v.toNat) ∧ Below w.heap.size w w' := by
  go_enter Try.func27, Try.ntmps27
  go_wp2
  go_ret
  exact ⟨rfl, (Below.refl _ _).alloc (Nat.le_refl _) _⟩

theorem val_any (v : Int) (w : World) :
    Calls Try.prog 32 #[.int .u64 v] w fun e w' => e = .returned (.float .f64 v.toNat) ∧ w = w' := by
  go_enter Try.func32, Try.ntmps32
  go_wp2
  go_ret
  exact ⟨rfl, rfl⟩

theorem times_any (x y : Nat) (w : World) :
    Calls Try.prog 29 #[.float .f64 x, .float .f64 y] w fun e w' => ∃ b n, e = .returned (.float .f64 b) ∧ w' = w.drewN n ∧ nf b = fop .mul (nf x) (nf y) := by
  have hr := fun w t => run_arith (P := Try.prog) w .mul t x y rfl
  go_enter Try.func29, Try.ntmps29
  go_wp2
  go_ret
  exact ⟨_, _, rfl, rfl, nf_fb ..⟩

theorem least_any (x y : Nat) (w : World) :
    Calls Try.prog 28 #[.float .f64 x, .float .f64 y] w fun e w' => e = .returned (.float .f64 (if (FloatKind.f64.format.order y x == some .lt) = true then y else x)) ∧ w = w' := by
  cases hc : (FloatKind.f64.format.order y x == some .lt)
  all_goals
    go_enter Try.func28, Try.ntmps28
    go_wp2
    go_ret
    exact ⟨rfl, rfl⟩

theorem seconds_any (a b : Int) (w : World) (h1 : -9223372036854775808 ≤ b - a) (h2 : b - a ≤ 9223372036854775807) :
    Calls Try.prog 26 #[.int .i64 a, .int .i64 b] w fun e w' => ∃ c n, e = .returned (.float .f64 c) ∧ w' = w.drewN n ∧ nf c = fop .quo (nf (floatOfInt .f64 (b - a))) (nf 4652007308841189376) := by
  have hr := fun w t x y => run_arith (P := Try.prog) w .quo t x y rfl
  go_enter Try.func26, Try.ntmps26
  go_wp2
  go_ret
  exact ⟨_, _, rfl, rfl, nf_fb ..⟩

theorem more_any (x most long mean : Nat) (a1 a2 a3 : Addr) (w : World) (h1 : w.cell? a1 = some (.float .f64 most)) (h2 : w.cell? a2 = some (.float .f64 long)) (h3 : w.cell? a3 = some (.float .f64 mean)) (hf : w.frozen? a2 = false) (hlt : (FloatKind.f64.format.order x most == some .lt) = true) :
    Calls Try.prog 30 #[.float .f64 x, .pointer (some a1), .pointer (some a2), .pointer (some a3)] w fun e w' => ∃ c n, e = .returned (.tuple #[]) ∧ w' = (w.setCell a2 (.float .f64 c)).drewN n ∧ nf c = fop .add (nf long) (nf x) := by
  have hr := fun w t x y => run_arith (P := Try.prog) w .add t x y rfl
  go_enter Try.func30, Try.ntmps30
  go_wp2
  go_end0
  exact ⟨_, _, rfl, rfl, nf_fb ..⟩
theorem more_not (x most long mean : Nat) (a1 a2 a3 : Addr) (w : World) (h1 : w.cell? a1 = some (.float .f64 most)) (h2 : w.cell? a2 = some (.float .f64 long)) (h3 : w.cell? a3 = some (.float .f64 mean)) (hf : w.frozen? a2 = false) (hlt : (FloatKind.f64.format.order x most == some .lt) = false) :
    Calls Try.prog 30 #[.float .f64 x, .pointer (some a1), .pointer (some a2), .pointer (some a3)] w fun e w' => ∃ c n, e = .returned (.tuple #[]) ∧ w' = (w.setCell a2 (.float .f64 c)).drewN n ∧ nf c = fop .add (nf long) (fop .quo (nf mean) (nf 4611686018427387904)) := by
  have hr := fun w t x y => run_arith (P := Try.prog) w .add t x y rfl
  have hq := fun w t x y => run_arith (P := Try.prog) w .quo t x y rfl
  go_enter Try.func30, Try.ntmps30
  go_wp2
  go_end0
  exact ⟨_, _, rfl, rfl, by rw [nf_fb, nf_fb]⟩

/-- The floats of points. -/
def vals (l : List S29) : List (Option Nat) := l.map fun p => nf p.f1.toNat
def ltF (a b : Option Nat) : Bool := match a, b with
  | some x, some y => FloatKind.f64.format.order x y == some .lt
  | _, _ => false
theorem order_nan {x y : Nat} (h : isN x = true ∨ isN y = true) : Ieee.double.order x y = none := by
  have k : ∀ z, isN z = true → ∃ s t, Ieee.double.read z = .nan s t := by
    intro z hz
    unfold isN dRead at hz
    cases hd : Ieee.double.read z with
    | nan s t => exact ⟨s, t, rfl⟩
    | number s m e => rw [hd] at hz; simp [Ieee.Datum.isNaN] at hz
    | infinity s => rw [hd] at hz; simp [Ieee.Datum.isNaN] at hz
  unfold Ieee.Format.order
  rcases h with h | h <;> obtain ⟨s, t, e⟩ := k _ h
  · rw [e]; rfl
  · rw [e]; cases Ieee.double.read x <;> rfl
theorem order_eq (x y : Nat) : (nf x).bind (fun a => (nf y).bind fun b => Ieee.double.order a b) = Ieee.double.order x y := by
  unfold nf
  by_cases hx : isN x = true
  · rw [if_pos hx, order_nan (.inl hx)]; rfl
  · rw [if_neg hx]
    by_cases hy : isN y = true
    · rw [if_pos hy, order_nan (.inr hy)]; rfl
    · rw [if_neg hy]; rfl
theorem ltF_nf (x y : Nat) : ltF (nf x) (nf y) = (FloatKind.f64.format.order x y == some .lt) := by
  have h := order_eq x y
  show _ = (Ieee.double.order x y == some .lt)
  rw [← h]
  cases nf x <;> cases nf y <;> rfl
/-- What is added, over falls; from the head of what is left. -/
def falls (c : Bool) : List (Option Nat) → Option Nat → Option Nat
  | x :: y :: r, g => falls c (y :: r) (if (c && ltF y x) = true then fop .add g x else g)
  | _, g => g
def lastF (l : List (Option Nat)) : Option Nat := l.getLastD none
def gainS (c : Bool) (l : List (Option Nat)) : Option Nat := falls c l (fop .sub (lastF l) (l.headD none))

theorem rd_val (l : List S29) (k : Nat) (h : k < l.length) : (vals l)[k]'(by simpa [vals] using h) = nf (rd_T29 l k).f1.toNat := by
  simp [vals, rd_T29, h]
theorem falls_step (c : Bool) (l : List S29) (k : Nat) (h : k + 1 < l.length) (g : Option Nat) :
    falls c ((vals l).drop k) g = falls c ((vals l).drop (k + 1)) (if (c && ltF (nf (rd_T29 l (k + 1 : Nat)).f1.toNat) (nf (rd_T29 l k).f1.toNat)) = true then fop .add g (nf (rd_T29 l k).f1.toNat) else g) := by
  have hv : (vals l).length = l.length := by simp [vals]
  rw [List.drop_eq_getElem_cons (by omega : k < (vals l).length), List.drop_eq_getElem_cons (by omega : k + 1 < (vals l).length), falls, rd_val l k (by omega), rd_val l (k + 1) h]
theorem falls_end (c : Bool) (l : List S29) (k : Nat) (h : l.length ≤ k + 1) (g : Option Nat) : falls c ((vals l).drop k) g = g := by
  have hv : (vals l).length = l.length := by simp [vals]
  rcases hd : (vals l).drop k with _ | ⟨x, _ | ⟨y, r⟩⟩
  · rfl
  · rfl
  · have := congrArg List.length hd
    simp at this; omega

set_option maxHeartbeats 2000000 in
set_option maxRecDepth 100000 in
theorem gain_any (A0 : Option Addr) (c0 : Nat) (l0 : List S29) (b : Bool) (w : World) (hr0 : Kd.C k29 w A0 l0.length l0) (hc0 : l0.length ≤ c0) (hn : 1 ≤ l0.length) (hb : l0.length ≤ 1000) :
    Calls Try.prog 25 #[.slice A0 l0.length c0, .bool b] w fun e w' => ∃ g, e = .returned (.float .f64 g) ∧ nf g = gainS b (vals l0) ∧ Below w.heap.size w w' := by
  have hsub := fun w t x y => run_arith (P := Try.prog) w .sub t x y rfl
  have hadd := fun w t x y => run_arith (P := Try.prog) w .add t x y rfl
  obtain ⟨i0, hi0, _, hs0, _⟩ := info_parts info29
  obtain ⟨m, hm⟩ : ∃ m, l0.length = m + 1 := ⟨l0.length - 1, by omega⟩
  have hcut := cut_from (P := Try.prog) 22 29 .i64 Try.underlying22 hi0 2 hs0 A0 (m + 1) c0 1 (by omega) (by omega)
  obtain ⟨ad, e0, p0, p1⟩ := at_T29 hr0 0 (by omega) (by omega)
  obtain ⟨ad', e1, q0, q1⟩ := at_T29 hr0 (m : Nat) (by omega) (by omega)
  subst e0
  cases e1
  obtain ⟨x0, hx0⟩ : ∃ x, x = rd_T29 l0 0 := ⟨_, rfl⟩
  obtain ⟨xm, hxm⟩ : ∃ x, x = rd_T29 l0 (m : Nat) := ⟨_, rfl⟩
  rw [← hx0] at p0 p1
  rw [← hxm] at q0 q1
  simp only [Int.toNat_natCast, Int.toNat_zero, Nat.zero_mul] at p0 p1 q0 q1
  obtain ⟨A1, hA1⟩ : ∃ A1, A1 = (if c0 = (1 : Int).toNat then some ad else (some ad : Option Addr).map (·.add ((1 : Int).toNat * 2))) := ⟨_, rfl⟩
  rw [← hA1] at hcut
  rw [show m + 1 - (1 : Int).toNat = m from by simp] at hcut
  have HA1 := Aside0.mk hA1
  have HX0 := Aside0.mk hx0
  have HXM := Aside0.mk hxm
  have HR0 := Aside0.mk hr0
  have HM := Aside0.mk hm
  rw [hm] at hb ⊢
  clear hA1 hx0 hxm hr0 hm hc0 hn
  have z4 : IntKind.i64.wrap (m : Int) = (m : Int) := IntWalk.i64_in _ (by omega)
  have z5 : (0 : Int) ≤ (m : Int) := by omega
  have z6 : (m : Int) < (m : Int) + 1 := by omega
  rw [show ad.add 0 = ad from Addr.add_zero' ad] at p0 p1
  go_enter Try.func25, Try.ntmps25
  go_wp2_with fail
  go_region_held_law (fun w' => w'.cell? ad = some (.int .i64 x0.f0) ∧ w'.cell? ⟨ad.block, ad.off + 1, none⟩ = some (.int .u64 x0.f1) ∧ w'.cell? (ad.add (m * 2)) = some (.int .i64 xm.f0) ∧ w'.cell? ⟨(ad.add (m * 2)).block, (ad.add (m * 2)).off + 1, none⟩ = some (.int .u64 xm.f1))
    (first | exact ⟨p0, p1, q0, q1⟩ | (go_split_ands; exact ⟨pw_cell_below hbb (by assumption), pw_cell_below hbb (by assumption), pw_cell_below hbb (by assumption), pw_cell_below hbb (by assumption)⟩) | go_keep)
    (first | (go_at_call 27; refine (of_any _ _ _).mono ?_; rintro e w' ⟨rfl, hbb⟩) | (refine step_arith (by rfl) (.tmp 13) (.tmp 17) _ _ .sub (by rfl) rfl xm.f1.toNat x0.f1.toNat (by rfl) (by rfl) ?_; intro gv gn hgv))
  go_wp2_with fail
  obtain ⟨R, hR⟩ : ∃ R, R = gainS b (vals l0) := ⟨_, rfl⟩
  have HRR := Aside0.mk hR
  have HG : Aside0 (falls b ((vals l0).drop 0) (nf (fb .sub xm.f1.toNat x0.f1.toNat w')) = R) := by
    refine ⟨?_⟩
    rw [hR, nf_fb, List.drop_zero, gainS]
    have hv : (vals l0).length = m + 1 := by simp [vals, HM.out]
    have e1 : lastF (vals l0) = nf xm.f1.toNat := by
      unfold lastF
      rw [List.getLastD_eq_getLast?, List.getLast?_eq_getElem?, hv]
      simp [vals, HXM.out, rd_T29, HM.out]
    have e2 : (vals l0).headD none = nf x0.f1.toNat := by
      rw [List.headD_eq_head?_getD, List.head?_eq_getElem?]
      simp [vals, HX0.out, rd_T29, HM.out]
    rw [e1, e2]
  have hb1 := ‹Below w.drew.heap.size w.drew _›
  have HB0 := Aside0.mk (below_then (below_then (below_drew (Below.refl w.heap.size w)) (Nat.le_refl _) hb1) hb1.size hbb)
  clear hR hb1
  obtain ⟨fg, hfg⟩ : ∃ fg, fg = fb .sub xm.f1.toNat x0.f1.toNat w' := ⟨_, rfl⟩
  rw [← hfg] at HG ⊢
  clear hfg
  go_loopw [5, 22] (fun v5 v22 w' => ∃ (i : Nat) (g : Nat), v22 = .int .i64 i ∧ i ≤ m ∧ v5 = .float .f64 g ∧ Aside0 (falls b ((vals l0).drop i) (nf g) = R) ∧ Aside0 (Below w.heap.size w w')) (fun _ v22 _ => m - (intOf v22).toNat)
  case atStart => exact ⟨0, fg, rfl, by omega, rfl, HG, ⟨pw_below_drewN HB0.out _⟩⟩
  case round =>
    obtain ⟨i, g, rfl, him, rfl, HG1, HB1⟩ := hrel
    by_cases hlt : i < m
    · have hC := Kd.C_below HR0.out HB1.out
      obtain ⟨ai, ei, y0, y1⟩ := at_T29 hC (i : Nat) (by omega) (by have := HM.out; omega)
      obtain ⟨aj, ej, u0, u1⟩ := at_T29 hC ((i + 1 : Nat) : Int) (by omega) (by have := HM.out; omega)
      cases ei
      cases ej
      have hst := falls_step b l0 i (by have := HM.out; omega) (nf g)
      obtain ⟨xi, hxi⟩ : ∃ x, x = rd_T29 l0 (i : Nat) := ⟨_, rfl⟩
      obtain ⟨xj, hxj⟩ : ∃ x, x = rd_T29 l0 ((i + 1 : Nat) : Int) := ⟨_, rfl⟩
      rw [← hxi] at y0 y1 hst
      rw [← hxj] at u0 u1 hst
      rw [HG1.out, ltF_nf] at hst
      simp only [Int.toNat_natCast] at y0 y1 u0 u1
      have HST := Aside0.mk hst
      clear hxi hxj hst hC
      have t1 : IntKind.i64.wrap ((i : Int) + 1) = (i : Int) + 1 := IntWalk.i64_in _ (by omega)
      have t2 : (0 : Int) ≤ (i : Int) := by omega
      have t3 : (i : Int) < (m : Int) + 1 := by omega
      have t4 : (0 : Int) ≤ (i : Int) + 1 := by omega
      have t5 : (i : Int) + 1 < (m : Int) + 1 := by omega
      have t6 : ((i : Int) + 1).toNat = i + 1 := by omega
      cases b with
      | false =>
        clear t1 t6
        go_wp2_with fail
        go_quiet (fail)
        go_wp2
        go_roundw
        case rel => exact ⟨i + 1, g, by go_num, by omega, rfl, ⟨HST.out.symm⟩, ⟨pw_below_drewN HB1.out _⟩⟩
        case measure => simp [intOf]; omega
      | true =>
        have hst := HST.out
        cases hlt2 : (FloatKind.f64.format.order xj.f1.toNat xi.f1.toNat == some .lt) <;> rw [hlt2] at hst <;> replace hst := Aside0.mk hst <;> clear HST
        · go_wp2_with fail
          go_region_held_law (fun w' => w'.cell? (ad.add (i * 2)) = some (.int .i64 xi.f0) ∧ w'.cell? ⟨(ad.add (i * 2)).block, (ad.add (i * 2)).off + 1, none⟩ = some (.int .u64 xi.f1) ∧ w'.cell? (ad.add ((i + 1) * 2)) = some (.int .i64 xj.f0) ∧ w'.cell? ⟨(ad.add ((i + 1) * 2)).block, (ad.add ((i + 1) * 2)).off + 1, none⟩ = some (.int .u64 xj.f1))
            (first | exact ⟨y0, y1, u0, u1⟩ | (go_split_ands; exact ⟨pw_cell_below hbc (by assumption), pw_cell_below hbc (by assumption), pw_cell_below hbc (by assumption), pw_cell_below hbc (by assumption)⟩) | go_keep)
            (first | (go_at_call 27; refine (of_any _ _ _).mono ?_; rintro e w' ⟨rfl, hbc⟩))
          have hb2 := ‹Below wr.drew.heap.size wr.drew _›
          have HB2 := Aside0.mk (below_then (below_then (below_drew HB1.out) (by have := HB1.out.size; exact this) hb2) (by have := HB1.out.size; have := hb2.size; exact Nat.le_trans HB1.out.size hb2.size) hbc)
          clear hb2
          go_wp2
          go_roundw
          case rel => exact ⟨i + 1, g, by go_num, by omega, rfl, ⟨by simpa using hst.out.symm⟩, HB2⟩
          case measure => simp [intOf]; omega
        · go_wp2_with fail
          go_region_held_law (fun w' => w'.cell? (ad.add (i * 2)) = some (.int .i64 xi.f0) ∧ w'.cell? ⟨(ad.add (i * 2)).block, (ad.add (i * 2)).off + 1, none⟩ = some (.int .u64 xi.f1) ∧ w'.cell? (ad.add ((i + 1) * 2)) = some (.int .i64 xj.f0) ∧ w'.cell? ⟨(ad.add ((i + 1) * 2)).block, (ad.add ((i + 1) * 2)).off + 1, none⟩ = some (.int .u64 xj.f1))
            (first | exact ⟨y0, y1, u0, u1⟩ | (go_split_ands; exact ⟨pw_cell_below hbc (by assumption), pw_cell_below hbc (by assumption), pw_cell_below hbc (by assumption), pw_cell_below hbc (by assumption)⟩) | go_keep)
            (first | (go_at_call 27; refine (of_any _ _ _).mono ?_; rintro e w' ⟨rfl, hbc⟩))
          have hb2 := ‹Below wr.drew.heap.size wr.drew _›
          have HB2 := Aside0.mk (below_then (below_then (below_drew HB1.out) (by have := HB1.out.size; exact this) hb2) (by have := HB1.out.size; have := hb2.size; exact Nat.le_trans HB1.out.size hb2.size) hbc)
          have y2 := pw_cell_below hbc (pw_cell_below hb2 (show wr.drew.cell? _ = _ from y0))
          have y3 := pw_cell_below hbc (pw_cell_below hb2 (show wr.drew.cell? _ = _ from y1))
          clear hb2
          go_wp2_with (first | (go_at_call 27; refine (of_any _ _ _).mono ?_; rintro e w4 ⟨rfl, hbd⟩))
          go_roundw
          case rel => exact ⟨i + 1, _, by go_num, by omega, rfl, ⟨by rw [nf_fb]; simpa using hst.out.symm⟩, ⟨pw_below_drewN (below_then HB2.out HB2.out.size hbd) _⟩⟩
          case measure => simp [intOf]; omega
    · obtain rfl : i = m := by omega
      go_wp2
      go_ret
      exact ⟨_, rfl, by rw [← HRR.out, ← HG1.out, falls_end _ _ _ (by have := HM.out; omega)], HB1.out⟩

end Go.Proofs.Ytlnhecplmppldaa.Pr
