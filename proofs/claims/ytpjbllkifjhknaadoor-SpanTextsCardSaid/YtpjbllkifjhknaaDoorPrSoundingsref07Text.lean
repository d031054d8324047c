-- Written by a program of this session (wip/hook.py) out of the translation. Not trusted: Lean checks it.
import Derived.Test.YtpjbllkifjhknaaDoorPr0
import Derived.Test.YtpjbllkifjhknaaDoorPrSoundingsref07Digits
import Derived.Test.YtpjbllkifjhknaaDoorPrSoundingsref07Long
import Derived.Test.YtpjbllkifjhknaaDoorPrSoundingsref07Units
namespace Go.Proofs.YtpjbllkifjhknaaDoor.Pr
open Go.RowKit Go.Proofs.YtpjbllkifjhknaaDoorW.PrintWords Go.Proofs.YtpjbllkifjhknaaDoorW.PrintLast Go.Proofs.YtpjbllkifjhknaaDoorW.PrintMore
attribute [local go_sem] max2_int min2_int max_two min_two max_three min_three max_four min_four   -- for this text's walks alone
set_option linter.unusedVariables false
set_option linter.unusedSimpArgs false

/-! ### soundingsref07_Text: function 11 -/
mutual
def soundingsref07_Text.j0 : Nat → Int → Bool → Option (ByteArray × Bool)
  | 0, _, _ => none
  | k + 1, x0, x13 => if x13 = true then (some ((⟨#[]⟩ : ByteArray), false)) else (soundingsref07_Text.l0 k (⟨#[]⟩ : ByteArray) x0 0)
def soundingsref07_Text.l0 : Nat → ByteArray → Int → Int → Option (ByteArray × Bool)
  | 0, _, _, _ => none
  | k + 1, x4, x5, x6 => if x6 < 7 then ((soundingsref07_Long.f).bind fun t144 => (if 0 ≤ x6 then (if x6 < (t144.length : Int) then (if (rd t144 x6) = 0 then (none) else ((soundingsref07_Long.f).bind fun t148 => (if x6 < (t148.length : Int) then (if (wrap64 (Int.tdiv x5 (rd t144 x6))) > 0 then ((soundingsref07_digits.f k (wrap64 (Int.tdiv x5 (rd t144 x6)))).bind fun t152 => (if x4.size + t152.size ≤ 9223372036854775807 then ((soundingsref07_Units.f).bind fun t153 => (if x6 < (t153.length : Int) then (if (x4 ++ t152).size + (rdOf ByteArray.empty t153 x6).size ≤ 9223372036854775807 then (soundingsref07_Text.l0 k ((x4 ++ t152) ++ (rdOf ByteArray.empty t153 x6)) (wrap64 (x5 - (wrap64 ((wrap64 (Int.tdiv x5 (rd t144 x6))) * (rd t148 x6))))) (wrap64 (x6 + 1))) else (none)) else (none))) else (none))) else (soundingsref07_Text.l0 k x4 (wrap64 (x5 - (wrap64 ((wrap64 (Int.tdiv x5 (rd t144 x6))) * (rd t148 x6))))) (wrap64 (x6 + 1)))) else (none)))) else (none)) else (none))) else (if x4.toList = ([] : List UInt8) then (some ((⟨#[48, 115]⟩ : ByteArray), true)) else (some (x4, true)))
end
def soundingsref07_Text.f (k : Nat) (a0 : Int) : Option (ByteArray × Bool) := if a0 < 0 then (soundingsref07_Text.j0 k a0 true) else (soundingsref07_Text.j0 k a0 (decide (a0 > 35184372088832)))
theorem soundingsref07_Text.mono_l : ∀ k, (∀ y0 y1, LeO (soundingsref07_Text.j0 k y0 y1) (soundingsref07_Text.j0 (k + 1) y0 y1)) ∧ (∀ y0 y1 y2, LeO (soundingsref07_Text.l0 k y0 y1 y2) (soundingsref07_Text.l0 (k + 1) y0 y1 y2))
  | 0 => ⟨fun _ _ r h => by simp [soundingsref07_Text.j0] at h, fun _ _ _ r h => by simp [soundingsref07_Text.l0] at h⟩
  | k + 1 => by
    obtain ⟨ih0, ih1⟩ := soundingsref07_Text.mono_l k
    refine ⟨?_, ?_⟩
    · intro y0 y1
      unfold soundingsref07_Text.j0
      repeat' first
      | (with_reducible exact ih0 _ _)
      | (with_reducible exact ih1 _ _ _)
      | (with_reducible exact soundingsref07_digits.mono _ _)
      | (with_reducible exact LeO.refl _)
      | (with_reducible exact LeO.none _)
      | (with_reducible refine LeO.ite ?_ ?_)
      | (with_reducible refine LeO.bind ?_ (fun _ => ?_))
      | exact ih0 _ _
      | exact ih1 _ _ _
      | exact soundingsref07_digits.mono _ _
      | exact LeO.none _
      | refine LeO.ite ?_ ?_
      | refine LeO.bind ?_ (fun _ => ?_)
    · intro y0 y1 y2
      unfold soundingsref07_Text.l0
      repeat' first
      | (with_reducible exact ih0 _ _)
      | (with_reducible exact ih1 _ _ _)
      | (with_reducible exact soundingsref07_digits.mono _ _)
      | (with_reducible exact LeO.refl _)
      | (with_reducible exact LeO.none _)
      | (with_reducible refine LeO.ite ?_ ?_)
      | (with_reducible refine LeO.bind ?_ (fun _ => ?_))
      | exact ih0 _ _
      | exact ih1 _ _ _
      | exact soundingsref07_digits.mono _ _
      | exact LeO.none _
      | refine LeO.ite ?_ ?_
      | refine LeO.bind ?_ (fun _ => ?_)
theorem soundingsref07_Text.mono : ∀ a0 k, LeO (soundingsref07_Text.f k a0) (soundingsref07_Text.f (k + 1) a0) := by
  intro a0 k
  obtain ⟨ih0, ih1⟩ := soundingsref07_Text.mono_l k
  unfold soundingsref07_Text.f
  repeat' first
      | (with_reducible exact ih0 _ _)
      | (with_reducible exact ih1 _ _ _)
      | (with_reducible exact soundingsref07_digits.mono _ _)
      | (with_reducible exact LeO.refl _)
      | (with_reducible exact LeO.none _)
      | (with_reducible refine LeO.ite ?_ ?_)
      | (with_reducible refine LeO.bind ?_ (fun _ => ?_))
      | exact ih0 _ _
      | exact ih1 _ _ _
      | exact soundingsref07_digits.mono _ _
      | exact LeO.none _
      | refine LeO.ite ?_ ?_
      | refine LeO.bind ?_ (fun _ => ?_)
set_option maxHeartbeats 8000000 in
set_option maxRecDepth 100000 in
theorem soundingsref07_Text.calls (k : Nat) (a0 : Int) (r1 : ByteArray) (r2 : Bool) (w : World) (h : soundingsref07_Text.f k a0 = some (r1, r2)) :
    Calls Tryd.prog 11 #[.int .i64 a0] w fun e w' => e = .returned (.tuple #[.string r1, .bool r2]) ∧ Below w.heap.size w w' := by
  have HB := Aside0.mk (Below.refl w.heap.size w)
  have H : (if a0 < 0 then (soundingsref07_Text.j0 k a0 true) else (soundingsref07_Text.j0 k a0 (decide (a0 > 35184372088832)))) = some (r1, r2) := h
  clear h
  have HC2 := Aside0.mk H
  clear H
  go_enter Tryd.func11, Tryd.ntmps11
  go_upto_region 1 with (fail)
  go_cut [13] (fun v13 wc => ∃ (kq : Nat) (x13_1 : Bool), v13 = .bool x13_1 ∧ Aside0 (soundingsref07_Text.j0 kq a0 x13_1 = some (r1, r2)) ∧ Aside0 (kq ≤ k) ∧ Aside0 (Below w.heap.size w wc))
  case first =>
    have H := HC2.out
    clear HC2
    by_cases c3 : a0 < 0
    · rw [if_pos c3] at H
      have c3b0 : decide (a0 < 0) = true := decide_eq_true c3
      clear c3
      (first | rw [c3b0] | (simp only [i64_w, i32_w]; rw [c3b0]) | skip)
      have H' := Aside0.mk H
      clear H
      go_wp2
      go_meet
      case rel => exact ⟨_, (true), (by first | rfl | (simp; done) | (simp [*]; done)), H', ⟨by first | omega | exact Nat.le_refl _⟩, ⟨by repeat (first | (with_reducible first | exact HB.out | apply below_alloc | apply pw_below_drewN | apply below_drew1) | exact HB.out)⟩⟩
    · rw [if_neg c3] at H
      have c3b0 : decide (a0 < 0) = false := decide_eq_false c3
      clear c3
      (first | rw [c3b0] | (simp only [i64_w, i32_w]; rw [c3b0]) | skip)
      have H' := Aside0.mk H
      clear H
      go_wp2
      go_meet
      case rel => exact ⟨_, (decide (a0 > 35184372088832)), (by first | rfl | (simp; done) | (simp [*]; done)), H', ⟨by first | omega | exact Nat.le_refl _⟩, ⟨by repeat (first | (with_reducible first | exact HB.out | apply below_alloc | apply pw_below_drewN | apply below_drew1) | exact HB.out)⟩⟩
  case rest =>
    clear HC2
    try clear c1
    try clear p2
    try clear c3
    try clear c3b0
    obtain ⟨kq, x13_1, rfl, HA, HJ1, HB⟩ := hcut
    cases kq with
    | zero => exact absurd HA.out (by simp [soundingsref07_Text.j0])
    | succ kj1 =>
      have H := HA.out
      clear HA
      simp only [soundingsref07_Text.j0] at H
      by_cases c4 : x13_1 = true
      · subst c4
        have H1 : (some ((⟨#[]⟩ : ByteArray), false)) = some (r1, r2) := by rw [if_pos rfl] at H; exact H
        clear H
        have H := H1
        clear H1
        simp only [Option.some.injEq, Prod.mk.injEq] at H
        obtain ⟨rfl, rfl⟩ := H
        go_wp2
        go_ret2
        exact ⟨by first | rfl | (simp [errW_none, errW_some] <;> rfl) | (simp [*, errW_none, errW_some] <;> rfl), by repeat (first | (with_reducible first | exact HB.out | apply below_alloc | apply pw_below_drewN | apply below_drew1) | exact HB.out)⟩
      · replace c4 := Bool.eq_false_iff.mpr c4
        subst c4
        have H1 : (soundingsref07_Text.l0 kj1 (⟨#[]⟩ : ByteArray) a0 0) = some (r1, r2) := by rw [if_neg (show ¬ (false = true) by decide)] at H; exact H
        clear H
        have H := H1
        clear H1
        have H' := Aside0.mk H
        clear H
        go_wp2
        go_loopg [4, 5, 6] kj1 (fun kq v4 v5 v6 w' => ∃ (x4_2 : ByteArray) (x5_2 : Int) (x6_2 : Int), v4 = .string x4_2 ∧ v5 = .int .i64 x5_2 ∧ v6 = .int .i64 x6_2 ∧ Aside0 (soundingsref07_Text.l0 kq x4_2 x5_2 x6_2 = some (r1, r2)) ∧ Aside0 (kq ≤ kj1) ∧ Aside0 (Below w.heap.size w w'))
        case atStart => exact ⟨((⟨#[]⟩ : ByteArray)), (a0), (0), (by first | rfl | (simp; done) | (simp [*]; done)), (by first | rfl | (simp; done) | (simp [*]; done)), (by first | rfl | (simp; done) | (simp [*]; done)), H', ⟨Nat.le_refl _⟩, ⟨by repeat (first | (with_reducible first | exact HB.out | apply below_alloc | apply pw_below_drewN | apply below_drew1) | exact HB.out)⟩⟩
        case round =>
          clear H'
          try clear c1
          try clear p2
          try clear c3
          try clear c3b0
          try clear c4
          try clear p2
          obtain ⟨x4_2, x5_2, x6_2, rfl, rfl, rfl, HA, HK2, HB⟩ := hrel
          cases gk with
          | zero => exact absurd HA.out (by simp [soundingsref07_Text.l0])
          | succ k2 =>
            have H := HA.out
            clear HA
            simp only [soundingsref07_Text.l0] at H
            by_cases c5 : x6_2 < 7
            · rw [if_pos c5] at H
              have c5b0 : decide (x6_2 < 7) = true := decide_eq_true c5
              clear c5
              replace H := Option.bind_eq_some_iff.mp H
              obtain ⟨t144, A60, H⟩ := H
              replace H : (if 0 ≤ x6_2 then (if x6_2 < (t144.length : Int) then (if (rd t144 x6_2) = 0 then (none) else ((soundingsref07_Long.f).bind fun t148 => (if x6_2 < (t148.length : Int) then (if (wrap64 (Int.tdiv x5_2 (rd t144 x6_2))) > 0 then ((soundingsref07_digits.f k2 (wrap64 (Int.tdiv x5_2 (rd t144 x6_2)))).bind fun t152 => (if x4_2.size + t152.size ≤ 9223372036854775807 then ((soundingsref07_Units.f).bind fun t153 => (if x6_2 < (t153.length : Int) then (if (x4_2 ++ t152).size + (rdOf ByteArray.empty t153 x6_2).size ≤ 9223372036854775807 then (soundingsref07_Text.l0 k2 ((x4_2 ++ t152) ++ (rdOf ByteArray.empty t153 x6_2)) (wrap64 (x5_2 - (wrap64 ((wrap64 (Int.tdiv x5_2 (rd t144 x6_2))) * (rd t148 x6_2))))) (wrap64 (x6_2 + 1))) else (none)) else (none))) else (none))) else (soundingsref07_Text.l0 k2 x4_2 (wrap64 (x5_2 - (wrap64 ((wrap64 (Int.tdiv x5_2 (rd t144 x6_2))) * (rd t148 x6_2))))) (wrap64 (x6_2 + 1)))) else (none)))) else (none)) else (none)) = some (r1, r2) := H
              have A6 := Aside0.mk A60
              clear A60
              by_cases c7 : 0 ≤ x6_2
              · rw [if_pos c7] at H
                have c7b0 : decide (0 ≤ x6_2) = true := decide_eq_true c7
                clear c7
                by_cases c8 : x6_2 < (t144.length : Int)
                · rw [if_pos c8] at H
                  have c8b0 : decide (x6_2 < (t144.length : Int)) = true := decide_eq_true c8
                  clear c8
                  by_cases c9 : (rd t144 x6_2) = 0
                  · rw [if_pos c9] at H
                    exact absurd H (by simp)
                  · rw [if_neg c9] at H
                    have c9b0 : ((rd t144 x6_2) == 0) = false := beq_eq_false_iff_ne.mpr c9
                    have c9b1 : ((rd t144 x6_2) != 0) = true := bne_iff_ne.mpr c9
                    replace H := Option.bind_eq_some_iff.mp H
                    obtain ⟨t148, A100, H⟩ := H
                    replace H : (if x6_2 < (t148.length : Int) then (if (wrap64 (Int.tdiv x5_2 (rd t144 x6_2))) > 0 then ((soundingsref07_digits.f k2 (wrap64 (Int.tdiv x5_2 (rd t144 x6_2)))).bind fun t152 => (if x4_2.size + t152.size ≤ 9223372036854775807 then ((soundingsref07_Units.f).bind fun t153 => (if x6_2 < (t153.length : Int) then (if (x4_2 ++ t152).size + (rdOf ByteArray.empty t153 x6_2).size ≤ 9223372036854775807 then (soundingsref07_Text.l0 k2 ((x4_2 ++ t152) ++ (rdOf ByteArray.empty t153 x6_2)) (wrap64 (x5_2 - (wrap64 ((wrap64 (Int.tdiv x5_2 (rd t144 x6_2))) * (rd t148 x6_2))))) (wrap64 (x6_2 + 1))) else (none)) else (none))) else (none))) else (soundingsref07_Text.l0 k2 x4_2 (wrap64 (x5_2 - (wrap64 ((wrap64 (Int.tdiv x5_2 (rd t144 x6_2))) * (rd t148 x6_2))))) (wrap64 (x6_2 + 1)))) else (none)) = some (r1, r2) := H
                    have A10 := Aside0.mk A100
                    clear A100
                    by_cases c11 : x6_2 < (t148.length : Int)
                    · rw [if_pos c11] at H
                      have c11b0 : decide (x6_2 < (t148.length : Int)) = true := decide_eq_true c11
                      clear c11
                      by_cases c12 : (wrap64 (Int.tdiv x5_2 (rd t144 x6_2))) > 0
                      · rw [if_pos c12] at H
                        have c12b0 : decide (0 < (wrap64 (Int.tdiv x5_2 (rd t144 x6_2)))) = true := decide_eq_true c12
                        clear c12
                        replace H := Option.bind_eq_some_iff.mp H
                        obtain ⟨t152, A130, H⟩ := H
                        replace H : (if x4_2.size + t152.size ≤ 9223372036854775807 then ((soundingsref07_Units.f).bind fun t153 => (if x6_2 < (t153.length : Int) then (if (x4_2 ++ t152).size + (rdOf ByteArray.empty t153 x6_2).size ≤ 9223372036854775807 then (soundingsref07_Text.l0 k2 ((x4_2 ++ t152) ++ (rdOf ByteArray.empty t153 x6_2)) (wrap64 (x5_2 - (wrap64 ((wrap64 (Int.tdiv x5_2 (rd t144 x6_2))) * (rd t148 x6_2))))) (wrap64 (x6_2 + 1))) else (none)) else (none))) else (none)) = some (r1, r2) := H
                        have A13 := Aside0.mk A130
                        clear A130
                        by_cases c14 : x4_2.size + t152.size ≤ 9223372036854775807
                        · rw [if_pos c14] at H
                          have c14b0 := eq_true c14
                          have c14b1 : decide (x4_2.size + t152.size ≤ 9223372036854775807) = true := decide_eq_true c14
                          try have c14b2 : (9223372036854775807 < x4_2.size + t152.size) = False := eq_false (Nat.not_lt.2 c14)
                          replace H := Option.bind_eq_some_iff.mp H
                          obtain ⟨t153, A150, H⟩ := H
                          replace H : (if x6_2 < (t153.length : Int) then (if (x4_2 ++ t152).size + (rdOf ByteArray.empty t153 x6_2).size ≤ 9223372036854775807 then (soundingsref07_Text.l0 k2 ((x4_2 ++ t152) ++ (rdOf ByteArray.empty t153 x6_2)) (wrap64 (x5_2 - (wrap64 ((wrap64 (Int.tdiv x5_2 (rd t144 x6_2))) * (rd t148 x6_2))))) (wrap64 (x6_2 + 1))) else (none)) else (none)) = some (r1, r2) := H
                          have A15 := Aside0.mk A150
                          clear A150
                          by_cases c16 : x6_2 < (t153.length : Int)
                          · rw [if_pos c16] at H
                            have c16b0 : decide (x6_2 < (t153.length : Int)) = true := decide_eq_true c16
                            clear c16
                            by_cases c17 : (x4_2 ++ t152).size + (rdOf ByteArray.empty t153 x6_2).size ≤ 9223372036854775807
                            · rw [if_pos c17] at H
                              have c17b0 := eq_true c17
                              have c17b1 : decide ((x4_2 ++ t152).size + (rdOf ByteArray.empty t153 x6_2).size ≤ 9223372036854775807) = true := decide_eq_true c17
                              try have c17b2 : (9223372036854775807 < (x4_2 ++ t152).size + (rdOf ByteArray.empty t153 x6_2).size) = False := eq_false (Nat.not_lt.2 c17)
                              have H' := Aside0.mk H
                              clear H
                              go_wp2_with (first | ((with_reducible refine gate_callee (f := 15) rfl ?_); refine goesL_ (some 20) rfl rfl Tryd.func15 (by kernel_rfl) rfl #[] rfl (by (try simp only [List.map_toArray, List.map_cons, List.map_nil]); first | done | rfl | (simp only [List.length_drop, List.length_take]; rfl)) ?_; (with_reducible refine (soundingsref07_Long.calls  t144 _ A6.out).mono ?_); rintro e w18 ⟨v145, rfl, ho0, hb⟩; refine ⟨_, rfl, ?_⟩; have n0_ := Aside0.mk (Kd.R_lower ho0 (below_size (by repeat (first | (with_reducible first | exact HB.out | apply below_alloc | apply pw_below_drewN | apply below_drew1) | exact HB.out)))); have n1_ := Aside0.mk (below_step (by repeat (first | (with_reducible first | exact HB.out | apply below_alloc | apply pw_below_drewN | apply below_drew1) | exact HB.out)) hb); clear HB; have HO146 := n0_; have HB := n1_; clear n0_ n1_; (try clear hb); (try clear hb2); (try clear hk); (try clear hi); (try clear ho0); obtain ⟨Ao19, co19, eo19⟩ := Kd.R_slice HO146.out; subst eo19; have p147 : 0 ≤ (x6_2 : Int) := of_decide_eq_true (by first | (with_reducible assumption) | assumption); have q147 : x6_2 < (t144.length : Int) := of_decide_eq_true (by first | (with_reducible assumption) | assumption); obtain ⟨ad147, e147, hx147_0⟩ := Kd.at_int (Kd.R_reads' HO146.out).2.2 x6_2 p147 q147; cases e147; replace p147 := eq_true p147; replace q147 := eq_true q147) | ((with_reducible refine gate_callee (f := 15) rfl ?_); refine goesL_ (some 27) rfl rfl Tryd.func15 (by kernel_rfl) rfl #[] rfl (by (try simp only [List.map_toArray, List.map_cons, List.map_nil]); first | done | rfl | (simp only [List.length_drop, List.length_take]; rfl)) ?_; (with_reducible refine (soundingsref07_Long.calls  t148 _ A10.out).mono ?_); rintro e w20 ⟨v149, rfl, ho0, hb⟩; refine ⟨_, rfl, ?_⟩; have n0_ := Aside0.mk (Kd.R_elder' (by (with_reducible repeat (first | apply Kd.R_alloc | apply Kd.R_drewN | apply Kd.R_drew)); exact HO146.out) (Kd.R_base ho0) hb); have n1_ := Aside0.mk (Kd.R_lower (Kd.R_new' ho0 (Kd.R_lt (by (with_reducible repeat (first | apply Kd.R_alloc | apply Kd.R_drewN | apply Kd.R_drew)); exact HO146.out))) (below_size (by repeat (first | (with_reducible first | exact HB.out | apply below_alloc | apply pw_below_drewN | apply below_drew1) | exact HB.out)))); have n2_ := Aside0.mk (below_step (by repeat (first | (with_reducible first | exact HB.out | apply below_alloc | apply pw_below_drewN | apply below_drew1) | exact HB.out)) hb); clear HO146; clear HB; have HO146 := n0_; have HO150 := n1_; have HB := n2_; clear n0_ n1_ n2_; (try clear hb); (try clear hb2); (try clear hk); (try clear hi); (try clear ho0); obtain ⟨Ao21, co21, eo21⟩ := Kd.R_slice HO150.out; subst eo21; have p151 : 0 ≤ (x6_2 : Int) := of_decide_eq_true (by first | (with_reducible assumption) | assumption); have q151 : x6_2 < (t148.length : Int) := of_decide_eq_true (by first | (with_reducible assumption) | assumption); obtain ⟨ad151, e151, hx151_0⟩ := Kd.at_int (Kd.R_reads' HO150.out).2.2 x6_2 p151 q151; cases e151; replace p151 := eq_true p151; replace q151 := eq_true q151) | ((with_reducible refine gate_callee (f := 18) rfl ?_); refine goesL_ (some 37) rfl rfl Tryd.func18 (by kernel_rfl) rfl #[.int .i64 (wrap64 (Int.tdiv x5_2 (rd t144 x6_2)))] rfl (by (try simp only [List.map_toArray, List.map_cons, List.map_nil]); first | done | rfl | (simp only [List.length_drop, List.length_take]; rfl)) ?_; (with_reducible refine (soundingsref07_digits.calls k2 (wrap64 (Int.tdiv x5_2 (rd t144 x6_2))) t152 _ A13.out).mono ?_); rintro e w' ⟨rfl, ⟨nd, rfl⟩⟩; refine ⟨_, rfl, ?_⟩) | ((with_reducible refine gate_callee (f := 19) rfl ?_); refine goesL_ (some 39) rfl rfl Tryd.func19 (by kernel_rfl) rfl #[] rfl (by (try simp only [List.map_toArray, List.map_cons, List.map_nil]); first | done | rfl | (simp only [List.length_drop, List.length_take]; rfl)) ?_; (with_reducible refine (soundingsref07_Units.calls  t153 _ A15.out).mono ?_); rintro e w22 ⟨v154, rfl, ho0, hb⟩; refine ⟨_, rfl, ?_⟩; have n0_ := Aside0.mk (Kd.R_below (by (with_reducible repeat (first | apply Kd.R_alloc | apply Kd.R_drewN | apply Kd.R_drew)); exact HO146.out) hb); have n1_ := Aside0.mk (Kd.R_below (by (with_reducible repeat (first | apply Kd.R_alloc | apply Kd.R_drewN | apply Kd.R_drew)); exact HO150.out) hb); have n2_ := Aside0.mk (Kd.R_lower ho0 (below_size (by repeat (first | (with_reducible first | exact HB.out | apply below_alloc | apply pw_below_drewN | apply below_drew1) | exact HB.out)))); have n3_ := Aside0.mk (below_step (by repeat (first | (with_reducible first | exact HB.out | apply below_alloc | apply pw_below_drewN | apply below_drew1) | exact HB.out)) hb); clear HO146; clear HO150; clear HB; have HO146 := n0_; have HO150 := n1_; have HO155 := n2_; have HB := n3_; clear n0_ n1_ n2_ n3_; (try clear hb); (try clear hb2); (try clear hk); (try clear hi); (try clear ho0); obtain ⟨Ao23, co23, eo23⟩ := Kd.R_slice HO155.out; subst eo23; have p156 : 0 ≤ (x6_2 : Int) := of_decide_eq_true (by first | (with_reducible assumption) | assumption); have q156 : x6_2 < (t153.length : Int) := of_decide_eq_true (by first | (with_reducible assumption) | assumption); obtain ⟨ad156, e156, hx156_0⟩ := Kd.at_string (Kd.R_reads' HO155.out).2.2 x6_2 p156 q156; cases e156; replace p156 := eq_true p156; replace q156 := eq_true q156))
                              go_roundg k2
                              case measure => have := HJ1.out; have := HK2.out; omega
                              case rel => exact ⟨((x4_2 ++ t152) ++ (rdOf ByteArray.empty t153 x6_2)), (wrap64 (x5_2 - (wrap64 ((wrap64 (Int.tdiv x5_2 (rd t144 x6_2))) * (rd t148 x6_2))))), (wrap64 (x6_2 + 1)), (by first | rfl | (simp; done) | (simp [*]; done)), (by first | rfl | (simp; done) | (simp [*]; done)), (by first | rfl | (simp; done) | (simp [*]; done)), H', ⟨by have := HJ1.out; have := HK2.out; omega⟩, ⟨by repeat (first | (with_reducible first | exact HB.out | apply below_alloc | apply pw_below_drewN | apply below_drew1) | exact HB.out)⟩⟩
                            · rw [if_neg c17] at H
                              exact absurd H (by simp)
                          · rw [if_neg c16] at H
                            exact absurd H (by simp)
                        · rw [if_neg c14] at H
                          exact absurd H (by simp)
                      · rw [if_neg c12] at H
                        have c12b0 : decide (0 < (wrap64 (Int.tdiv x5_2 (rd t144 x6_2)))) = false := decide_eq_false c12
                        clear c12
                        have H' := Aside0.mk H
                        clear H
                        go_wp2_with (first | ((with_reducible refine gate_callee (f := 15) rfl ?_); refine goesL_ (some 20) rfl rfl Tryd.func15 (by kernel_rfl) rfl #[] rfl (by (try simp only [List.map_toArray, List.map_cons, List.map_nil]); first | done | rfl | (simp only [List.length_drop, List.length_take]; rfl)) ?_; (with_reducible refine (soundingsref07_Long.calls  t144 _ A6.out).mono ?_); rintro e w24 ⟨v145, rfl, ho0, hb⟩; refine ⟨_, rfl, ?_⟩; have n0_ := Aside0.mk (Kd.R_lower ho0 (below_size (by repeat (first | (with_reducible first | exact HB.out | apply below_alloc | apply pw_below_drewN | apply below_drew1) | exact HB.out)))); have n1_ := Aside0.mk (below_step (by repeat (first | (with_reducible first | exact HB.out | apply below_alloc | apply pw_below_drewN | apply below_drew1) | exact HB.out)) hb); clear HB; have HO146 := n0_; have HB := n1_; clear n0_ n1_; (try clear hb); (try clear hb2); (try clear hk); (try clear hi); (try clear ho0); obtain ⟨Ao25, co25, eo25⟩ := Kd.R_slice HO146.out; subst eo25; have p147 : 0 ≤ (x6_2 : Int) := of_decide_eq_true (by first | (with_reducible assumption) | assumption); have q147 : x6_2 < (t144.length : Int) := of_decide_eq_true (by first | (with_reducible assumption) | assumption); obtain ⟨ad147, e147, hx147_0⟩ := Kd.at_int (Kd.R_reads' HO146.out).2.2 x6_2 p147 q147; cases e147; replace p147 := eq_true p147; replace q147 := eq_true q147) | ((with_reducible refine gate_callee (f := 15) rfl ?_); refine goesL_ (some 27) rfl rfl Tryd.func15 (by kernel_rfl) rfl #[] rfl (by (try simp only [List.map_toArray, List.map_cons, List.map_nil]); first | done | rfl | (simp only [List.length_drop, List.length_take]; rfl)) ?_; (with_reducible refine (soundingsref07_Long.calls  t148 _ A10.out).mono ?_); rintro e w26 ⟨v149, rfl, ho0, hb⟩; refine ⟨_, rfl, ?_⟩; have n0_ := Aside0.mk (Kd.R_elder' (by (with_reducible repeat (first | apply Kd.R_alloc | apply Kd.R_drewN | apply Kd.R_drew)); exact HO146.out) (Kd.R_base ho0) hb); have n1_ := Aside0.mk (Kd.R_lower (Kd.R_new' ho0 (Kd.R_lt (by (with_reducible repeat (first | apply Kd.R_alloc | apply Kd.R_drewN | apply Kd.R_drew)); exact HO146.out))) (below_size (by repeat (first | (with_reducible first | exact HB.out | apply below_alloc | apply pw_below_drewN | apply below_drew1) | exact HB.out)))); have n2_ := Aside0.mk (below_step (by repeat (first | (with_reducible first | exact HB.out | apply below_alloc | apply pw_below_drewN | apply below_drew1) | exact HB.out)) hb); clear HO146; clear HB; have HO146 := n0_; have HO150 := n1_; have HB := n2_; clear n0_ n1_ n2_; (try clear hb); (try clear hb2); (try clear hk); (try clear hi); (try clear ho0); obtain ⟨Ao27, co27, eo27⟩ := Kd.R_slice HO150.out; subst eo27; have p151 : 0 ≤ (x6_2 : Int) := of_decide_eq_true (by first | (with_reducible assumption) | assumption); have q151 : x6_2 < (t148.length : Int) := of_decide_eq_true (by first | (with_reducible assumption) | assumption); obtain ⟨ad151, e151, hx151_0⟩ := Kd.at_int (Kd.R_reads' HO150.out).2.2 x6_2 p151 q151; cases e151; replace p151 := eq_true p151; replace q151 := eq_true q151))
                        go_roundg k2
                        case measure => have := HJ1.out; have := HK2.out; omega
                        case rel => exact ⟨(x4_2), (wrap64 (x5_2 - (wrap64 ((wrap64 (Int.tdiv x5_2 (rd t144 x6_2))) * (rd t148 x6_2))))), (wrap64 (x6_2 + 1)), (by first | rfl | (simp; done) | (simp [*]; done)), (by first | rfl | (simp; done) | (simp [*]; done)), (by first | rfl | (simp; done) | (simp [*]; done)), H', ⟨by have := HJ1.out; have := HK2.out; omega⟩, ⟨by repeat (first | (with_reducible first | exact HB.out | apply below_alloc | apply pw_below_drewN | apply below_drew1) | exact HB.out)⟩⟩
                    · rw [if_neg c11] at H
                      exact absurd H (by simp)
                · rw [if_neg c8] at H
                  exact absurd H (by simp)
              · rw [if_neg c7] at H
                exact absurd H (by simp)
            · rw [if_neg c5] at H
              have c5b0 : decide (x6_2 < 7) = false := decide_eq_false c5
              clear c5
              by_cases c28 : x4_2.toList = ([] : List UInt8)
              · rw [if_pos c28] at H
                have c28b0 : (x4_2.toList == ([] : List UInt8)) = true := beq_iff_eq.mpr c28
                have c28b1 : (x4_2.toList != ([] : List UInt8)) = false := bne_eq_false_iff_eq.mpr c28
                clear c28
                simp only [Option.some.injEq, Prod.mk.injEq] at H
                obtain ⟨rfl, rfl⟩ := H
                go_wp2
                go_ret2
                exact ⟨by first | rfl | (simp [errW_none, errW_some] <;> rfl) | (simp [*, errW_none, errW_some] <;> rfl), by repeat (first | (with_reducible first | exact HB.out | apply below_alloc | apply pw_below_drewN | apply below_drew1) | exact HB.out)⟩
              · rw [if_neg c28] at H
                have c28b0 : (x4_2.toList == ([] : List UInt8)) = false := beq_eq_false_iff_ne.mpr c28
                have c28b1 : (x4_2.toList != ([] : List UInt8)) = true := bne_iff_ne.mpr c28
                simp only [Option.some.injEq, Prod.mk.injEq] at H
                obtain ⟨rfl, rfl⟩ := H
                go_wp2
                go_ret2
                exact ⟨by first | rfl | (simp [errW_none, errW_some] <;> rfl) | (simp [*, errW_none, errW_some] <;> rfl), by repeat (first | (with_reducible first | exact HB.out | apply below_alloc | apply pw_below_drewN | apply below_drew1) | exact HB.out)⟩

end Go.Proofs.YtpjbllkifjhknaaDoor.Pr
