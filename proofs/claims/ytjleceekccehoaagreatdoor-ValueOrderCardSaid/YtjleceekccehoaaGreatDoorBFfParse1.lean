/- Texts of this session, cut down to what one claim needs and joined: FfParse1. -/
import Derived.Test.YtjleceekccehoaaGreatDoorBFfNum
import Derived.Test.YtjleceekccehoaaGreatDoorBGFk
import Derived.WalkMore
import Derived.Deep.QuietTactic
import Derived.BigQuiet
import Derived.WalkSpells
import Derived.WalkLawsBesides
set_option linter.unusedVariables false
set_option linter.unusedSimpArgs false
namespace Go.Proofs.YtjleceekccehoaaGreatDoor.Pr
open Go.RowKit Go.Proofs.Fl Go.Proofs.YtjleceekccehoaaGreatDoorW.PrintWords Go.Proofs.YtjleceekccehoaaGreatDoorW.PrintLast Go.Proofs.YtjleceekccehoaaGreatDoorW.PrintMore

set_option maxHeartbeats 4000000 in
set_option maxRecDepth 100000 in
theorem special_1e3 (w : World) : Calls Tryz.prog 152 #[.string ⟨#[49, 101, 51]⟩] w fun e w' => e = .returned (.tuple #[.float .f64 0, .int .i64 0, .bool false]) ∧ w = w' := by
  go_enter Tryz.func152, Tryz.ntmps152
  go_wp2
  refine bodyPost_ret (results_list (rs := [.tmp 2, .tmp 3, .tmp 4]) rfl (by simp) (.tmp (.tmp (.tmp .nil)))) rfl ?_
  exact ⟨by first | rfl | simp, rfl⟩
set_option maxHeartbeats 4000000 in
set_option maxRecDepth 100000 in
theorem readFloat_1e3 (w : World) : Calls Tryz.prog 153 #[.string ⟨#[49, 101, 51]⟩] w fun e w' => e = .returned (.tuple #[.int .u64 1, .int .i64 3, .bool false, .bool false, .bool false, .int .i64 3, .bool true]) ∧ Drawn0 w w' := by
  go_enter Tryz.func153, Tryz.ntmps153
  go_wp2
  go_step3
  go_wp2
  go_step3
  go_wp2
  refine wp_loop_rounds 3 ?_
  rw [rounds_succ]
  go_wp2
  rw [rounds_succ]
  go_wp2
  refine wp_loop_rounds 2 ?_
  rw [rounds_succ]
  go_wp2
  rw [rounds_succ]
  go_wp2
  simp only [Exit.noGoto]
  refine bodyPost_ret (results_list (rs := [.tmp 2, .tmp 3, .tmp 4, .tmp 5, .tmp 6, .tmp 7, .tmp 8]) rfl (by simp) (.tmp (.tmp (.tmp (.tmp (.tmp (.tmp (.tmp .nil)))))))) rfl ?_
  exact ⟨by first | rfl | (simp; done) | decide, by repeat (first | exact Drawn0.refl _ | apply Drawn0.step)⟩

/-- What ParseFloat asks at a small number. -/
structure LaidG (w : World) : Prop where
  opt : w.cell? ⟨2, 0, none⟩ = some (.bool true)
  bits : w.cell? ⟨13, 0, none⟩ = some (.int .u64 52)
  pow : ∃ (a : Addr) (c : Nat), w.cell? ⟨18, 0, none⟩ = some (.slice (some a) 23 c) ∧ 23 ≤ c ∧ w.cell? ⟨a.block, a.off + 3, none⟩ = some (.float .f64 4652007308841189376)
theorem LaidG.below {w w' : World} (h : LaidG w) (hb : Below w.heap.size w w') : LaidG w' := by
  obtain ⟨a, c, h1, h2, h3⟩ := h.pow
  exact ⟨pw_cell_below hb h.opt, pw_cell_below hb h.bits, a, c, pw_cell_below hb h1, h2, pw_cell_below hb h3⟩
theorem one_f : floatOfInt .f64 1 = 4607182418800017408 := by kernel_rfl
theorem mul_f (w : World) (t : TypeId) : (binOp .mul t (.float .f64 4607182418800017408) (.float .f64 4652007308841189376)).run Tryz.prog w = .ok (.float .f64 4652007308841189376) w :=
  run_float_arith w .mul t .f64 _ _ _ (by kernel_rfl)
set_option maxHeartbeats 4000000 in
set_option maxRecDepth 100000 in
theorem exact_1e3 (w : World) (hG : LaidG w) : Calls Tryz.prog 163 #[.int .u64 1, .int .i64 3, .bool false] w fun e w' => e = .returned (.tuple #[.float .f64 4652007308841189376, .bool true]) ∧ Drawn0 w w' := by
  obtain ⟨a, c, h1, h2, h3⟩ := hG.pow
  have hb := hG.bits
  clear hG
  have k1 := one_f
  have k2 := mul_f
  have k3 : (FloatKind.f64.format.order 4607182418800017408 4831355200913801216 == some Ordering.gt) = false := by kernel_rfl
  have k4 : (FloatKind.f64.format.order 4607182418800017408 14054727237768577024 == some Ordering.lt) = false := by kernel_rfl
  go_enter Tryz.func163, Tryz.ntmps163
  go_wp2
  refine bodyPost_ret (results_list (rs := [.tmp 6, .tmp 7]) rfl (by simp) (.tmp (.tmp .nil))) rfl ?_
  exact ⟨by first | rfl | (simp; done), by repeat (first | exact Drawn0.refl _ | apply Drawn0.step)⟩
def b2u (b : Bool) : Int := if b = true then 1 else 0
theorem b2u_any (b : Bool) (w : World) : Calls Tryz.prog 161 #[.bool b] w fun e w' => e = .returned (.int .u64 (b2u b)) ∧ Drawn0 w w' := strconv_bool2_uint64.calls b _ w (by cases b <;> rfl)
set_option maxHeartbeats 4000000 in
set_option maxRecDepth 100000 in
theorem atof64_1e3 (w : World) (hG : LaidG w) : Calls Tryz.prog 123 #[.string ⟨#[49, 101, 51]⟩] w fun e w' => e = .returned (.tuple #[.float .f64 4652007308841189376, .int .i64 3, .nilIface]) ∧ Drawn0 w w' := by
  have hO := hG.opt
  have HG := Aside0.mk hG
  clear hG
  go_enter Tryz.func123, Tryz.ntmps123
  go_wp2_with (first | (go_at_call 152; refine (special_1e3 _).mono ?_; rintro e_ w' ⟨rfl, rfl⟩) | (go_at_call 153; refine (readFloat_1e3 _).mono ?_; rintro e_ w' ⟨rfl, ⟨m1, rfl⟩⟩) | (go_at_call 161; refine (b2u_any _ _).mono ?_; rintro e_ w' ⟨rfl, ⟨m2, rfl⟩⟩) | (go_at_call 163; refine (exact_1e3 _ (HG.out.below (by repeat (first | (with_reducible exact Below.refl _ _) | apply pw_below_drewN | apply below_drew1 | exact Below.refl _ _)))).mono ?_; rintro e_ w' ⟨rfl, ⟨m3, rfl⟩⟩))
  refine bodyPost_ret (results_list (rs := [.tmp 2, .tmp 3, .tmp 4]) rfl (by simp) (.tmp (.tmp (.tmp .nil)))) rfl ?_
  exact ⟨by first | rfl | (simp; done), by repeat (first | exact Drawn0.refl _ | apply Drawn0.step)⟩
theorem prefix_1e3 (w : World) (hG : LaidG w) : Calls Tryz.prog 89 #[.string ⟨#[49, 101, 51]⟩, .int .i64 64] w fun e w' => e = .returned (.tuple #[.float .f64 4652007308841189376, .int .i64 3, .nilIface]) ∧ Drawn0 w w' := by
  go_enter Tryz.func89, Tryz.ntmps89
  go_wp2_with (first | (go_at_call 123; refine (atof64_1e3 _ (hG.below (by repeat (first | (with_reducible exact Below.refl _ _) | apply pw_below_drewN | apply below_drew1 | exact Below.refl _ _)))).mono ?_; rintro e_ w' ⟨rfl, ⟨m1, rfl⟩⟩))
  refine bodyPost_ret (results_list (rs := [.tmp 4, .tmp 5, .tmp 6]) rfl (by simp) (.tmp (.tmp (.tmp .nil)))) rfl ?_
  exact ⟨by first | rfl | (simp; done), by repeat (first | exact Drawn0.refl _ | apply Drawn0.step)⟩
theorem parseI_1e3 (w : World) (hG : LaidG w) : Calls Tryz.prog 64 #[.string ⟨#[49, 101, 51]⟩, .int .i64 64] w fun e w' => e = .returned (.tuple #[.float .f64 4652007308841189376, .nilIface]) ∧ Drawn0 w w' := by
  go_enter Tryz.func64, Tryz.ntmps64
  go_wp2_with (first | (go_at_call 89; refine (prefix_1e3 _ (hG.below (by repeat (first | (with_reducible exact Below.refl _ _) | apply pw_below_drewN | apply below_drew1 | exact Below.refl _ _)))).mono ?_; rintro e_ w' ⟨rfl, ⟨m1, rfl⟩⟩))
  go_ret2
  exact ⟨by first | rfl | (simp; done), by repeat (first | exact Drawn0.refl _ | apply Drawn0.step)⟩
theorem parse_1e3 (w : World) (hG : LaidG w) : Calls Tryz.prog 40 #[.string ⟨#[49, 101, 51]⟩, .int .i64 64] w fun e w' => e = .returned (.tuple #[.float .f64 4652007308841189376, .nilIface]) ∧ Drawn0 w w' := by
  go_enter Tryz.func40, Tryz.ntmps40
  go_wp2_with (first | (go_at_call 64; refine (parseI_1e3 _ (hG.below (by repeat (first | (with_reducible exact Below.refl _ _) | apply pw_below_drewN | apply below_drew1 | exact Below.refl _ _)))).mono ?_; rintro e_ w' ⟨rfl, ⟨m1, rfl⟩⟩))
  go_ret2
  exact ⟨by first | rfl | (simp; done), by repeat (first | exact Drawn0.refl _ | apply Drawn0.step)⟩
end Go.Proofs.YtjleceekccehoaaGreatDoor.Pr
