/- Texts of this session, cut down to what one claim needs and joined: PrSoundingsref07Long, PrSoundingsref07Units. -/
import Derived.Test.YtjleceekccehoaaGreatDoorVGJ0
section
-- Written by a program of this session (wip/hook.py) out of the translation. Not trusted: Lean checks it.
namespace Go.Proofs.YtjleceekccehoaaGreatDoor.Pr
open Go.RowKit Go.Proofs.YtjleceekccehoaaGreatDoorW.PrintWords Go.Proofs.YtjleceekccehoaaGreatDoorW.PrintLast Go.Proofs.YtjleceekccehoaaGreatDoorW.PrintMore
attribute [local go_sem] max2_int min2_int max_two min_two max_three min_three max_four min_four   -- for this text's walks alone
set_option linter.unusedVariables false
set_option linter.unusedSimpArgs false

/-! ### soundingsref07_Long: function 80 -/
def soundingsref07_Long.f  : Option (List Int) := some (([31536000000, 604800000, 86400000, 3600000, 60000, 1000, 1] : List Int))
set_option maxHeartbeats 8000000 in
set_option maxRecDepth 100000 in
theorem soundingsref07_Long.calls  (r : List Int) (w : World) (h : soundingsref07_Long.f  = some r) :
  Calls Tryz.prog 80 #[] w fun e w' => ∃ v0_ : Value, e = .returned (v0_) ∧ Kd.R (Kd.int .i64) 2 w' w.heap.size (fun _ => True) v0_ r ∧ Below w.heap.size w w' := by
 have HB := Aside0.mk (Below.refl w.heap.size w)
 have H : (some (([31536000000, 604800000, 86400000, 3600000, 60000, 1000, 1] : List Int))) = some r := h
 clear h
 obtain ⟨y325, hy325⟩ : ∃ y_ : List Int, y_ = (([31536000000, 604800000, 86400000, 3600000, 60000, 1000, 1] : List Int)) := ⟨_, rfl⟩
 replace H : (some y325) = some r := by first | (rw [hy325]; with_reducible exact H) | (have H2_ := (Option.bind_some _ _).symm.trans H; rw [hy325]; with_reducible exact H2_) | (have H2_ := (Option.bind_some _ _).symm.trans H; with_reducible exact H2_) | with_reducible exact H | (rw [hy325]; exact H) | exact H
 have Ny325 := Aside0.mk hy325
 clear hy325
 obtain rfl := Option.some.inj H
 go_enter Tryz.func80, Tryz.ntmps80
 go_wp2_with (first | ((with_reducible refine gate_dst (N := 1) rfl ?_); refine Kd.R_lit (Kd.int .i64) _ 2 ?hg (N := 1) ?hd (xs := ([31536000000, 604800000, 86400000, 3600000, 60000, 1000, 1] : List Int)) (inner := [.int .i64 31536000000, .int .i64 604800000, .int .i64 86400000, .int .i64 3600000, .int .i64 60000, .int .i64 1000, .int .i64 1]) (ok := fun _ => True) (okp := fun _ => True) ?hr ?hp (fun _ hk => hk) trivial (Below.refl _ _) (Nat.le_refl _) (by simp) ?_; (case hd => rfl); (case hg => rfl); (case hr => first | (go_simp; done) | (go_simp; rfl)); (case hp => exact (Reps.one (show Kd.M (Kd.int .i64) _ _ _ 31536000000 [.int .i64 31536000000] from rfl) (Reps.one (show Kd.M (Kd.int .i64) _ _ _ 604800000 [.int .i64 604800000] from rfl) (Reps.one (show Kd.M (Kd.int .i64) _ _ _ 86400000 [.int .i64 86400000] from rfl) (Reps.one (show Kd.M (Kd.int .i64) _ _ _ 3600000 [.int .i64 3600000] from rfl) (Reps.one (show Kd.M (Kd.int .i64) _ _ _ 60000 [.int .i64 60000] from rfl) (Reps.one (show Kd.M (Kd.int .i64) _ _ _ 1000 [.int .i64 1000] from rfl) (Reps.one (show Kd.M (Kd.int .i64) _ _ _ 1 [.int .i64 1] from rfl) (Reps.none _ _))))))))); intro v326 w1 ho2 hb hg_ hnew_; clear hg_ hnew_; (first | rw [← Ny325.out] at ho2 | (simp only [Int.reduceToNat] at ho2; rw [← Ny325.out] at ho2)); have n0_ := Aside0.mk (Kd.R_lower ho2 (below_size (by repeat (first | (with_reducible first | exact HB.out | apply below_alloc | apply pw_below_drewN | apply below_drew1) | exact HB.out)))); have n1_ := Aside0.mk (below_step (by repeat (first | (with_reducible first | exact HB.out | apply below_alloc | apply pw_below_drewN | apply below_drew1) | exact HB.out)) hb); clear HB; have HO327 := n0_; have HB := n1_; clear n0_ n1_; clear hb ho2))
 go_ret
 exact ⟨_, by first | rfl | (simp [errW_none, errW_some] <;> rfl) | (simp [*, errW_none, errW_some] <;> rfl), by (with_reducible repeat (first | apply Kd.R_alloc | apply Kd.R_drewN | apply Kd.R_drew)); exact HO327.out, by repeat (first | (with_reducible first | exact HB.out | apply below_alloc | apply pw_below_drewN | apply below_drew1) | exact HB.out)⟩

end Go.Proofs.YtjleceekccehoaaGreatDoor.Pr
end

section
-- Written by a program of this session (wip/hook.py) out of the translation. Not trusted: Lean checks it.
namespace Go.Proofs.YtjleceekccehoaaGreatDoor.Pr
open Go.RowKit Go.Proofs.YtjleceekccehoaaGreatDoorW.PrintWords Go.Proofs.YtjleceekccehoaaGreatDoorW.PrintLast Go.Proofs.YtjleceekccehoaaGreatDoorW.PrintMore
attribute [local go_sem] max2_int min2_int max_two min_two max_three min_three max_four min_four   -- for this text's walks alone
set_option linter.unusedVariables false
set_option linter.unusedSimpArgs false

/-! ### soundingsref07_Units: function 117 -/
def soundingsref07_Units.f  : Option (List ByteArray) := some (([(⟨#[121]⟩ : ByteArray), (⟨#[119]⟩ : ByteArray), (⟨#[100]⟩ : ByteArray), (⟨#[104]⟩ : ByteArray), (⟨#[109]⟩ : ByteArray), (⟨#[115]⟩ : ByteArray), (⟨#[109, 115]⟩ : ByteArray)] : List ByteArray))
set_option maxHeartbeats 8000000 in
set_option maxRecDepth 100000 in
theorem soundingsref07_Units.calls  (r : List ByteArray) (w : World) (h : soundingsref07_Units.f  = some r) :
  Calls Tryz.prog 117 #[] w fun e w' => ∃ v0_ : Value, e = .returned (v0_) ∧ Kd.R Kd.string 9 w' w.heap.size (fun _ => True) v0_ r ∧ Below w.heap.size w w' := by
 have HB := Aside0.mk (Below.refl w.heap.size w)
 have H : (some (([(⟨#[121]⟩ : ByteArray), (⟨#[119]⟩ : ByteArray), (⟨#[100]⟩ : ByteArray), (⟨#[104]⟩ : ByteArray), (⟨#[109]⟩ : ByteArray), (⟨#[115]⟩ : ByteArray), (⟨#[109, 115]⟩ : ByteArray)] : List ByteArray))) = some r := h
 clear h
 obtain ⟨y318, hy318⟩ : ∃ y_ : List ByteArray, y_ = (([(⟨#[121]⟩ : ByteArray), (⟨#[119]⟩ : ByteArray), (⟨#[100]⟩ : ByteArray), (⟨#[104]⟩ : ByteArray), (⟨#[109]⟩ : ByteArray), (⟨#[115]⟩ : ByteArray), (⟨#[109, 115]⟩ : ByteArray)] : List ByteArray)) := ⟨_, rfl⟩
 replace H : (some y318) = some r := by first | (rw [hy318]; with_reducible exact H) | (have H2_ := (Option.bind_some _ _).symm.trans H; rw [hy318]; with_reducible exact H2_) | (have H2_ := (Option.bind_some _ _).symm.trans H; with_reducible exact H2_) | with_reducible exact H | (rw [hy318]; exact H) | exact H
 have Ny318 := Aside0.mk hy318
 clear hy318
 obtain rfl := Option.some.inj H
 go_enter Tryz.func117, Tryz.ntmps117
 go_wp2_with (first | ((with_reducible refine gate_dst (N := 1) rfl ?_); refine Kd.R_lit Kd.string _ 9 ?hg (N := 1) ?hd (xs := ([(⟨#[121]⟩ : ByteArray), (⟨#[119]⟩ : ByteArray), (⟨#[100]⟩ : ByteArray), (⟨#[104]⟩ : ByteArray), (⟨#[109]⟩ : ByteArray), (⟨#[115]⟩ : ByteArray), (⟨#[109, 115]⟩ : ByteArray)] : List ByteArray)) (inner := [.string (⟨#[121]⟩ : ByteArray), .string (⟨#[119]⟩ : ByteArray), .string (⟨#[100]⟩ : ByteArray), .string (⟨#[104]⟩ : ByteArray), .string (⟨#[109]⟩ : ByteArray), .string (⟨#[115]⟩ : ByteArray), .string (⟨#[109, 115]⟩ : ByteArray)]) (ok := fun _ => True) (okp := fun _ => True) ?hr ?hp (fun _ hk => hk) trivial (Below.refl _ _) (Nat.le_refl _) (by simp) ?_; (case hd => rfl); (case hg => rfl); (case hr => first | (go_simp; done) | (go_simp; rfl)); (case hp => exact (Reps.one (show Kd.M Kd.string _ _ _ (⟨#[121]⟩ : ByteArray) [.string (⟨#[121]⟩ : ByteArray)] from rfl) (Reps.one (show Kd.M Kd.string _ _ _ (⟨#[119]⟩ : ByteArray) [.string (⟨#[119]⟩ : ByteArray)] from rfl) (Reps.one (show Kd.M Kd.string _ _ _ (⟨#[100]⟩ : ByteArray) [.string (⟨#[100]⟩ : ByteArray)] from rfl) (Reps.one (show Kd.M Kd.string _ _ _ (⟨#[104]⟩ : ByteArray) [.string (⟨#[104]⟩ : ByteArray)] from rfl) (Reps.one (show Kd.M Kd.string _ _ _ (⟨#[109]⟩ : ByteArray) [.string (⟨#[109]⟩ : ByteArray)] from rfl) (Reps.one (show Kd.M Kd.string _ _ _ (⟨#[115]⟩ : ByteArray) [.string (⟨#[115]⟩ : ByteArray)] from rfl) (Reps.one (show Kd.M Kd.string _ _ _ (⟨#[109, 115]⟩ : ByteArray) [.string (⟨#[109, 115]⟩ : ByteArray)] from rfl) (Reps.none _ _))))))))); intro v319 w1 ho2 hb hg_ hnew_; clear hg_ hnew_; (first | rw [← Ny318.out] at ho2 | (simp only [Int.reduceToNat] at ho2; rw [← Ny318.out] at ho2)); have n0_ := Aside0.mk (Kd.R_lower ho2 (below_size (by repeat (first | (with_reducible first | exact HB.out | apply below_alloc | apply pw_below_drewN | apply below_drew1) | exact HB.out)))); have n1_ := Aside0.mk (below_step (by repeat (first | (with_reducible first | exact HB.out | apply below_alloc | apply pw_below_drewN | apply below_drew1) | exact HB.out)) hb); clear HB; have HO320 := n0_; have HB := n1_; clear n0_ n1_; clear hb ho2))
 go_ret
 exact ⟨_, by first | rfl | (simp [errW_none, errW_some] <;> rfl) | (simp [*, errW_none, errW_some] <;> rfl), by (with_reducible repeat (first | apply Kd.R_alloc | apply Kd.R_drewN | apply Kd.R_drew)); exact HO320.out, by repeat (first | (with_reducible first | exact HB.out | apply below_alloc | apply pw_below_drewN | apply below_drew1) | exact HB.out)⟩

end Go.Proofs.YtjleceekccehoaaGreatDoor.Pr
end
