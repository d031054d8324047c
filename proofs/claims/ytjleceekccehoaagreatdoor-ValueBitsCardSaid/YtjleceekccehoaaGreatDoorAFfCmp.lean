/- Texts of this session, cut down to what one claim needs and joined: FfCmp. -/
import Derived.Test.YtjleceekccehoaaGreatDoorAFfFmt
import Derived.Test.YtjleceekccehoaaGreatDoorAFfVal
import Derived.Test.YtjleceekccehoaaGreatDoorAGFk
import Derived.Test.YtjleceekccehoaaGreatDoorAPrValueSame
import Derived.Test.YtjleceekccehoaaGreatDoorAPrSoundingsref04Norm
import Derived.WalkLawsBesides
set_option linter.unusedVariables false
set_option linter.unusedSimpArgs false
namespace Go.Proofs.YtjleceekccehoaaGreatDoor.Pr
open Go.RowKit Go.Proofs.Fl Go.Proofs.YtjleceekccehoaaGreatDoorW.PrintWords Go.Proofs.YtjleceekccehoaaGreatDoorW.PrintLast Go.Proofs.YtjleceekccehoaaGreatDoorW.PrintMore
attribute [local go_sem] frombits_run

theorem isN_int (v : Int) (h0 : 0 ≤ v) (h1 : v ≤ 18446744073709551615) : isN v.toNat = (decide (v / 4503599627370496 % 2048 = 2047) && (v % 4503599627370496 != 0)) := by
  rw [isN_iff, Bool.eq_iff_iff]
  simp only [decide_eq_true_eq, Bool.and_eq_true, bne_iff_ne, ne_eq]
  omega
theorem none_f (v : Int) (h0 : 0 ≤ v) (h1 : v ≤ 18446744073709551615) : soundingsref04_IsNone.f v = some (isN v.toNat) := by
  rw [isN_int v h0 h1]
  unfold soundingsref04_IsNone.f
  rw [Int.tdiv_eq_ediv_of_nonneg h0, IntWalk.u64_in _ (by omega), Int.tmod_eq_emod_of_nonneg (by omega), Int.tmod_eq_emod_of_nonneg h0]
  split
  · rename_i h; simp [h]
  · rename_i h; simp [h]
theorem norm_f (v : Int) (h0 : 0 ≤ v) (h1 : v ≤ 18446744073709551615) : soundingsref04_Norm.f v = some (normI v) := by
  unfold soundingsref04_Norm.f
  rw [none_f v h0 h1]
  simp only [Option.bind_some]
  unfold normI
  cases hN : isN v.toNat
  · simp
  · by_cases hs : v = 9218868437227405314
    · simp [hs]
    · simp [hs]
theorem refNorm_any (v : Int) (h0 : 0 ≤ v) (h1 : v ≤ 18446744073709551615) (w : World) : Calls Tryz.prog 11 #[.int .u64 v] w fun e w' => e = .returned (.int .u64 (normI v)) ∧ Drawn0 w w' :=
  soundingsref04_Norm.calls v _ w (norm_f v h0 h1)
theorem refNone_any (v : Int) (h0 : 0 ≤ v) (h1 : v ≤ 18446744073709551615) (w : World) : Calls Tryz.prog 25 #[.int .u64 v] w fun e w' => e = .returned (.bool (isN v.toNat)) ∧ Drawn0 w w' :=
  soundingsref04_IsNone.calls v _ w (none_f v h0 h1)
theorem same_any (a b : Int) (w : World) : Calls Tryz.prog 12 #[.int .u64 a, .int .u64 b] w fun e w' => e = .returned (.bool (normI a == normI b)) ∧ Drawn0 w w' :=
  value_Same.calls a b _ w rfl
def cmpF (x y : Nat) : Int := if isN x = true then (if isN y = true then 0 else -1) else if isN y = true then 1 else if (Ieee.double.order x y == some .lt) = true then -1 else if (Ieee.double.order x y == some .gt) = true then 1 else 0
theorem cIsNaN_any (x : Nat) (w : World) : Calls Tryz.prog 43 #[.float .f64 x] w fun e w' => e = .returned (.bool (isN x)) ∧ w = w' := by
  go_enter Tryz.func43, Tryz.ntmps43
  go_wp2
  go_ret
  exact ⟨by rw [← isN_order]; rfl, rfl⟩
set_option maxHeartbeats 1000000 in
theorem compare_any (x y : Nat) (w : World) : Calls Tryz.prog 28 #[.float .f64 x, .float .f64 y] w fun e w' => e = .returned (.int .i64 (cmpF x y)) ∧ w = w' := by
  unfold cmpF
  cases hx : isN x <;> cases hy : isN y <;> cases hl : (FloatKind.f64.format.order x y == some .lt) <;> cases hg : (FloatKind.f64.format.order x y == some .gt)
  all_goals
    have hl' : (Ieee.double.order x y == some .lt) = _ := hl
    have hg' : (Ieee.double.order x y == some .gt) = _ := hg
    rw [hl', hg']
    have HX := Aside0.mk hx
    have HY := Aside0.mk hy
    clear hl' hg' hx hy
    go_enter Tryz.func28, Tryz.ntmps28
    go_wp2_with (first | (go_at_call 43; refine (cIsNaN_any _ _).mono ?_; (first | rw [HX.out] | rw [HY.out]); rintro e w' ⟨rfl, rfl⟩))
    go_ret
    exact ⟨rfl, rfl⟩
theorem cmp_any (a b : Int) (w : World) : Calls Tryz.prog 13 #[.int .u64 a, .int .u64 b] w fun e w' => e = .returned (.int .i64 (cmpF a.toNat b.toNat)) ∧ w = w' := by
  go_enter Tryz.func13, Tryz.ntmps13
  go_wp2_with (first | (go_at_call 28; refine (compare_any _ _ _).mono ?_; rintro e w' ⟨rfl, rfl⟩))
  go_ret
  exact ⟨rfl, rfl⟩
theorem float_any (v : Int) (w : World) : Calls Tryz.prog 29 #[.int .u64 v] w fun e w' => e = .returned (.float .f64 v.toNat) ∧ w = w' := by
  go_enter Tryz.func29, Tryz.ntmps29
  go_wp2
  go_ret
  exact ⟨rfl, rfl⟩
set_option maxHeartbeats 1000000 in
theorem refCmp_any (a b : Int) (a0 : 0 ≤ a) (a1 : a ≤ 18446744073709551615) (b0 : 0 ≤ b) (b1 : b ≤ 18446744073709551615) (w : World) : Calls Tryz.prog 14 #[.int .u64 a, .int .u64 b] w fun e w' => e = .returned (.int .i64 (cmpF a.toNat b.toNat)) ∧ Below w.heap.size w w' := by
  unfold cmpF
  cases hx : isN a.toNat <;> cases hy : isN b.toNat <;> cases hl : (FloatKind.f64.format.order a.toNat b.toNat == some .lt) <;> cases hg : (FloatKind.f64.format.order a.toNat b.toNat == some .gt)
  all_goals
    have hl' : (Ieee.double.order a.toNat b.toNat == some .lt) = _ := hl
    have hg' : (Ieee.double.order a.toNat b.toNat == some .gt) = _ := hg
    rw [hl', hg']
    have HX : Aside0 (∀ w, Calls Tryz.prog 25 #[.int .u64 a] w fun e w' => e = .returned (.bool _) ∧ Drawn0 w w') := ⟨by intro w; have := refNone_any a a0 a1 w; rw [hx] at this; exact this⟩
    have HY : Aside0 (∀ w, Calls Tryz.prog 25 #[.int .u64 b] w fun e w' => e = .returned (.bool _) ∧ Drawn0 w w') := ⟨by intro w; have := refNone_any b b0 b1 w; rw [hy] at this; exact this⟩
    clear hl' hg' hx hy
    go_enter Tryz.func14, Tryz.ntmps14
    go_wp2_with (first | (go_at_call 25; ((with_reducible refine (HX.out _).mono ?_); rintro e w' ⟨rfl, ⟨m, rfl⟩⟩)) | (go_at_call 25; ((with_reducible refine (HY.out _).mono ?_); rintro e w' ⟨rfl, ⟨m, rfl⟩⟩)) | (go_at_call 29; refine (float_any _ _).mono ?_; rintro e w' ⟨rfl, rfl⟩))
    go_ret
    exact ⟨rfl, by repeat (first | (with_reducible first | exact Below.refl _ _ | apply pw_below_drewN | apply below_drew1) | exact Below.refl _ _)⟩

def txt (v : Int) : ByteArray := strOfNums (textV v.toNat)
theorem text_any (v : Int) (h0 : 0 ≤ v) (h1 : v ≤ 18446744073709551615) (w : World) (hL : LaidF w) : Calls Tryz.prog 15 #[.int .u64 v] w fun e w' => e = .returned (.string (txt v)) ∧ Below w.heap.size w w' := by
  go_enter Tryz.func15, Tryz.ntmps15
  go_wp2_with (first | (go_at_call 30; refine (format_any v.toNat (by omega) _ hL).mono ?_; rintro e w' ⟨rfl, hb⟩; have HB := Aside0.mk hb; clear hb))
  go_ret
  exact ⟨rfl, HB.out⟩
theorem txt_nan (v : Int) (h0 : 0 ≤ v) (h1 : v ≤ 18446744073709551615) (h : isN v.toNat = true) : txt v = ⟨#[78, 97, 78]⟩ := by
  rw [isN_int v h0 h1] at h
  simp only [Bool.and_eq_true, decide_eq_true_eq, bne_iff_ne, ne_eq] at h
  unfold txt textV
  simp only
  rw [show ((v.toNat : Nat) : Int) = v from by omega, if_pos h.1, if_pos h.2]
  rfl
theorem txt_pinf : txt 9218868437227405312 = ⟨#[43, 73, 110, 102]⟩ := by kernel_rfl
theorem txt_ninf : txt 18442240474082181120 = ⟨#[45, 73, 110, 102]⟩ := by kernel_rfl
set_option maxHeartbeats 1000000 in
theorem refText_any (v : Int) (h0 : 0 ≤ v) (h1 : v ≤ 18446744073709551615) (w : World) (hL : LaidF w) : Calls Tryz.prog 16 #[.int .u64 v] w fun e w' => e = .returned (.string (txt v)) ∧ Below w.heap.size w w' := by
  have HL := Aside0.mk hL
  clear hL
  cases hx : isN v.toNat
  · have HX : Aside0 (∀ w, Calls Tryz.prog 25 #[.int .u64 v] w fun e w' => e = .returned (.bool false) ∧ Drawn0 w w') := ⟨by intro w; have := refNone_any v h0 h1 w; rw [hx] at this; exact this⟩
    by_cases hp : v = 9218868437227405312
    · subst hp
      rw [txt_pinf]
      clear hx
      go_enter Tryz.func16, Tryz.ntmps16
      go_wp2_with (first | (go_at_call 25; ((with_reducible refine (HX.out _).mono ?_); rintro e w' ⟨rfl, ⟨m, rfl⟩⟩)))
      go_ret
      exact ⟨rfl, pw_below_drewN (Below.refl _ _) _⟩
    · by_cases hn : v = 18442240474082181120
      · subst hn
        rw [txt_ninf]
        clear hx
        go_enter Tryz.func16, Tryz.ntmps16
        go_wp2_with (first | (go_at_call 25; ((with_reducible refine (HX.out _).mono ?_); rintro e w' ⟨rfl, ⟨m, rfl⟩⟩)))
        go_ret
        exact ⟨rfl, pw_below_drewN (Below.refl _ _) _⟩
      · have t1 : (v == 9218868437227405312) = false := beq_eq_false_iff_ne.2 hp
        have t2 : (v == 18442240474082181120) = false := beq_eq_false_iff_ne.2 hn
        have hv : v.toNat < 18446744073709551616 := by omega
        clear hp hn hx
        go_enter Tryz.func16, Tryz.ntmps16
        go_wp2_with (first | (go_at_call 25; ((with_reducible refine (HX.out _).mono ?_); rintro e w' ⟨rfl, ⟨m, rfl⟩⟩)) | (go_at_call 29; refine (float_any _ _).mono ?_; rintro e w' ⟨rfl, rfl⟩) | (go_at_call 30; refine (format_any v.toNat hv _ (HL.out.below (pw_below_drewN (Below.refl _ _) _))).mono ?_; rintro e w' ⟨rfl, hb⟩; have HB := Aside0.mk hb; clear hb))
        go_ret
        exact ⟨rfl, below_step (pw_below_drewN (Below.refl _ _) _) HB.out⟩
  · have HX : Aside0 (∀ w, Calls Tryz.prog 25 #[.int .u64 v] w fun e w' => e = .returned (.bool true) ∧ Drawn0 w w') := ⟨by intro w; have := refNone_any v h0 h1 w; rw [hx] at this; exact this⟩
    rw [txt_nan v h0 h1 hx]
    clear hx
    go_enter Tryz.func16, Tryz.ntmps16
    go_wp2_with (first | (go_at_call 25; ((with_reducible refine (HX.out _).mono ?_); rintro e w' ⟨rfl, ⟨m, rfl⟩⟩)))
    go_ret
    exact ⟨rfl, pw_below_drewN (Below.refl _ _) _⟩
end Go.Proofs.YtjleceekccehoaaGreatDoor.Pr
