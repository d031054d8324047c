/- Texts of this session, cut down to what one claim needs and joined: FfExact. -/
import Derived.Test.YtjleceekccehoaaGreatDoorQGJ5
set_option linter.unusedVariables false
set_option linter.unusedSimpArgs false
namespace Go.Proofs.YtjleceekccehoaaGreatDoor.Pr
open Go.RowKit Go.Proofs.Fl Go.Proofs.YtjleceekccehoaaGreatDoorW.PrintWords Go.Proofs.YtjleceekccehoaaGreatDoorW.PrintLast Go.Proofs.YtjleceekccehoaaGreatDoorW.PrintMore

/-- strconv's powers of ten as floats. -/
structure LaidT (w : World) : Prop where
  bits : w.cell? ⟨13, 0, none⟩ = some (.int .u64 52)
  pow : ∃ (b o c : Nat), w.cell? ⟨18, 0, none⟩ = some (.slice (some ⟨b, o, none⟩) 23 c) ∧ 23 ≤ c ∧ ∀ i, i < 23 → ∃ x : Nat, w.cell? ⟨b, o + i, none⟩ = some (.float .f64 x)
theorem LaidT.below {w w' : World} (h : LaidT w) (hb : Below w.heap.size w w') : LaidT w' := by
  obtain ⟨b, o, c, h1, h2, h3⟩ := h.pow
  exact ⟨pw_cell_below hb h.bits, b, o, c, pw_cell_below hb h1, h2, fun i hi => by obtain ⟨x, hx⟩ := h3 i hi; exact ⟨x, pw_cell_below hb hx⟩⟩
def ExE (e : Ending) : Prop := ∃ (x : Nat) (ok : Bool), e = .returned (.tuple #[.float .f64 x, .bool ok])
set_option maxHeartbeats 4000000 in
set_option maxRecDepth 100000 in
theorem exact_any (M p : Int) (m0 : 0 ≤ M) (m1 : M ≤ 18446744073709551615) (p0 : -1000 ≤ p) (p1 : p ≤ 1000) (w : World) (hT : LaidT w) :
    Calls Tryz.prog 163 #[.int .u64 M, .int .i64 p, .bool false] w fun e_ w' => ExE e_ ∧ Below w.heap.size w w' := by
  obtain ⟨b, o, c, h1, h2, h3⟩ := hT.pow
  have hb := hT.bits
  have hm := fun w t x y => run_arith (P := Tryz.prog) w .mul t x y rfl
  have hq := fun w t x y => run_arith (P := Tryz.prog) w .quo t x y rfl
  have H3 := Aside0.mk h3
  clear hT h3
  by_cases c0 : p = 0
  · subst c0
    go_enter Tryz.func163, Tryz.ntmps163
    go_wp2_with fail
    all_goals
      refine bodyPost_ret (results_list (rs := [.tmp 6, .tmp 7]) rfl (by simp) (.tmp (.tmp .nil))) rfl ?_
      exact ⟨⟨_, _, rfl⟩, by repeat (first | (with_reducible exact Below.refl _ _) | apply pw_below_drewN | apply below_drew1 | exact Below.refl _ _)⟩
  have t0 : (p == 0) = false := by rw [beq_eq_false_iff_ne]; exact c0
  clear c0
  by_cases c1 : 0 < p
  · by_cases c2 : p ≤ 37
    · by_cases c3 : 22 < p
      · obtain ⟨i, hi⟩ : ∃ i : Nat, p - 22 = i := ⟨(p - 22).toNat, by omega⟩
        obtain ⟨x1, q1⟩ := H3.out i (by omega)
        obtain ⟨x2, q2⟩ := H3.out 22 (by omega)
        have z0 : (0 : Int) ≤ (i : Int) := by omega
        have z1 : (i : Int) < 23 := by omega
        go_enter Tryz.func163, Tryz.ntmps163
        go_wp2_with fail
        all_goals
          refine bodyPost_ret (results_list (rs := [.tmp 6, .tmp 7]) rfl (by simp) (.tmp (.tmp .nil))) rfl ?_
          exact ⟨⟨_, _, rfl⟩, by repeat (first | (with_reducible exact Below.refl _ _) | apply pw_below_drewN | apply below_drew1 | exact Below.refl _ _)⟩
      · obtain ⟨i, rfl⟩ : ∃ i : Nat, p = i := ⟨p.toNat, by omega⟩
        obtain ⟨x1, q1⟩ := H3.out i (by omega)
        have z0 : (0 : Int) ≤ (i : Int) := by omega
        have z1 : (i : Int) < 23 := by omega
        have z2 : ((i : Int) > 22) = False := eq_false (by omega)
        go_enter Tryz.func163, Tryz.ntmps163
        go_wp2_with fail
        all_goals
          refine bodyPost_ret (results_list (rs := [.tmp 6, .tmp 7]) rfl (by simp) (.tmp (.tmp .nil))) rfl ?_
          exact ⟨⟨_, _, rfl⟩, by repeat (first | (with_reducible exact Below.refl _ _) | apply pw_below_drewN | apply below_drew1 | exact Below.refl _ _)⟩
    · have z2 : (p ≤ 37) = False := eq_false (by omega)
      go_enter Tryz.func163, Tryz.ntmps163
      go_wp2_with fail
      all_goals
        refine bodyPost_ret (results_list (rs := [.tmp 6, .tmp 7]) rfl (by simp) (.tmp (.tmp .nil))) rfl ?_
        exact ⟨⟨_, _, rfl⟩, by repeat (first | (with_reducible exact Below.refl _ _) | apply pw_below_drewN | apply below_drew1 | exact Below.refl _ _)⟩
  · have z3 : (p > 0) = False := eq_false (by omega)
    have z4 : p < 0 := by have := beq_eq_false_iff_ne.1 t0; omega
    by_cases c2 : -22 ≤ p
    · obtain ⟨i, hi⟩ : ∃ i : Nat, -p = i := ⟨(-p).toNat, by omega⟩
      obtain ⟨x1, q1⟩ := H3.out i (by omega)
      have z0 : (0 : Int) ≤ (i : Int) := by omega
      have z1 : (i : Int) < 23 := by omega
      go_enter Tryz.func163, Tryz.ntmps163
      go_wp2_with fail
      all_goals
        refine bodyPost_ret (results_list (rs := [.tmp 6, .tmp 7]) rfl (by simp) (.tmp (.tmp .nil))) rfl ?_
        exact ⟨⟨_, _, rfl⟩, by repeat (first | (with_reducible exact Below.refl _ _) | apply pw_below_drewN | apply below_drew1 | exact Below.refl _ _)⟩
    · have z2 : (p ≥ -22) = False := eq_false (by omega)
      go_enter Tryz.func163, Tryz.ntmps163
      go_wp2_with fail
      all_goals
        refine bodyPost_ret (results_list (rs := [.tmp 6, .tmp 7]) rfl (by simp) (.tmp (.tmp .nil))) rfl ?_
        exact ⟨⟨_, _, rfl⟩, by repeat (first | (with_reducible exact Below.refl _ _) | apply pw_below_drewN | apply below_drew1 | exact Below.refl _ _)⟩
end Go.Proofs.YtjleceekccehoaaGreatDoor.Pr
