/- Texts of this session, cut down to what one claim needs and joined: PrSoundingsref08Number. -/
import Derived.Test.YtjleceekccehoaaGreatDoorVGJ0
import Derived.Test.YtjleceekccehoaaGreatDoorVGJ22
-- Written by a program of this session (wip/hook.py) out of the translation. Not trusted: Lean checks it.
namespace Go.Proofs.YtjleceekccehoaaGreatDoor.Pr
open Go.RowKit Go.Proofs.YtjleceekccehoaaGreatDoorW.PrintWords Go.Proofs.YtjleceekccehoaaGreatDoorW.PrintLast Go.Proofs.YtjleceekccehoaaGreatDoorW.PrintMore
attribute [local go_sem] max2_int min2_int max_two min_two max_three min_three max_four min_four   -- for this text's walks alone
set_option linter.unusedVariables false
set_option linter.unusedSimpArgs false

/-! ### soundingsref08_number: function 53 -/
mutual
def soundingsref08_number.l0 : Nat → ByteArray → Int → Int → Option (Int)
 | 0, _, _, _ => none
 | k + 1, x0, x1, x5 => if x5 < (x0.size : Int) then (if 0 ≤ x5 then ((soundingsref08_kind.f k (bt x0 x5)).bind fun t313 => (if t313 = 97 then (soundingsref08_number.j1 k x0 x1 x5 t313 true) else (if t313 = 48 then (soundingsref08_number.j1 k x0 x1 x5 t313 true) else (soundingsref08_number.j1 k x0 x1 x5 t313 (t313 == 46))))) else (none)) else (some x5)
def soundingsref08_number.j1 : Nat → ByteArray → Int → Int → Int → Bool → Option (Int)
 | 0, _, _, _, _, _ => none
 | k + 1, x0, x1, x5, x6, x25 => if x25 = true then (soundingsref08_number.l0 k x0 x1 (wrap64 (x5 + 1))) else (if x6 = 43 then (if x5 > x1 then (if 0 ≤ (wrap64 (x5 - 1)) then (if (wrap64 (x5 - 1)) < (x0.size : Int) then (if (bt x0 (wrap64 (x5 - 1))) = 101 then (if 0 ≤ x1 then (if x1 ≤ (wrap64 (x5 - 1)) then (if (wrap64 (x5 - 1)) ≤ (x0.size : Int) then ((soundingsref08_plain.f k (x0.extract (x1 : Int).toNat ((wrap64 (x5 - 1)) : Int).toNat)).bind fun t314 => (if t314 = true then (soundingsref08_number.l0 k x0 x1 (wrap64 (x5 + 1))) else (some x5))) else (none)) else (none)) else (none)) else (if (bt x0 (wrap64 (x5 - 1))) = 69 then (if 0 ≤ x1 then (if x1 ≤ (wrap64 (x5 - 1)) then (if (wrap64 (x5 - 1)) ≤ (x0.size : Int) then ((soundingsref08_plain.f k (x0.extract (x1 : Int).toNat ((wrap64 (x5 - 1)) : Int).toNat)).bind fun t315 => (if t315 = true then (soundingsref08_number.l0 k x0 x1 (wrap64 (x5 + 1))) else (some x5))) else (none)) else (none)) else (none)) else (some x5))) else (none)) else (none)) else (some x5)) else (if x6 = 45 then (if x5 > x1 then (if 0 ≤ (wrap64 (x5 - 1)) then (if (wrap64 (x5 - 1)) < (x0.size : Int) then (if (bt x0 (wrap64 (x5 - 1))) = 101 then (if 0 ≤ x1 then (if x1 ≤ (wrap64 (x5 - 1)) then (if (wrap64 (x5 - 1)) ≤ (x0.size : Int) then ((soundingsref08_plain.f k (x0.extract (x1 : Int).toNat ((wrap64 (x5 - 1)) : Int).toNat)).bind fun t316 => (if t316 = true then (soundingsref08_number.l0 k x0 x1 (wrap64 (x5 + 1))) else (some x5))) else (none)) else (none)) else (none)) else (if (bt x0 (wrap64 (x5 - 1))) = 69 then (if 0 ≤ x1 then (if x1 ≤ (wrap64 (x5 - 1)) then (if (wrap64 (x5 - 1)) ≤ (x0.size : Int) then ((soundingsref08_plain.f k (x0.extract (x1 : Int).toNat ((wrap64 (x5 - 1)) : Int).toNat)).bind fun t317 => (if t317 = true then (soundingsref08_number.l0 k x0 x1 (wrap64 (x5 + 1))) else (some x5))) else (none)) else (none)) else (none)) else (some x5))) else (none)) else (none)) else (some x5)) else (some x5)))
end
def soundingsref08_number.f (k : Nat) (a0 : ByteArray) (a1 : Int) : Option (Int) := soundingsref08_number.l0 k a0 a1 a1
theorem soundingsref08_number.mono_l : ∀ k, (∀ y0 y1 y2, LeO (soundingsref08_number.l0 k y0 y1 y2) (soundingsref08_number.l0 (k + 1) y0 y1 y2)) ∧ (∀ y0 y1 y2 y3 y4, LeO (soundingsref08_number.j1 k y0 y1 y2 y3 y4) (soundingsref08_number.j1 (k + 1) y0 y1 y2 y3 y4))
 | 0 => ⟨fun _ _ _ r h => by simp [soundingsref08_number.l0] at h, fun _ _ _ _ _ r h => by simp [soundingsref08_number.j1] at h⟩
 | k + 1 => by
  obtain ⟨ih0, ih1⟩ := soundingsref08_number.mono_l k
  refine ⟨?_, ?_⟩
  ·intro y0 y1 y2
   unfold soundingsref08_number.l0
   repeat' first
   | (with_reducible exact ih0 _ _ _)
   | (with_reducible exact ih1 _ _ _ _ _)
   | (with_reducible exact soundingsref08_kind.mono _ _)
   | (with_reducible exact soundingsref08_plain.mono _ _)
   | (with_reducible exact LeO.refl _)
   | (with_reducible exact LeO.none _)
   | (with_reducible refine LeO.ite ?_ ?_)
   | (with_reducible refine LeO.bind ?_ (fun _ => ?_))
   | exact ih0 _ _ _
   | exact ih1 _ _ _ _ _
   | exact soundingsref08_kind.mono _ _
   | exact soundingsref08_plain.mono _ _
   | exact LeO.none _
   | refine LeO.ite ?_ ?_
   | refine LeO.bind ?_ (fun _ => ?_)
  ·intro y0 y1 y2 y3 y4
   unfold soundingsref08_number.j1
   repeat' first
   | (with_reducible exact ih0 _ _ _)
   | (with_reducible exact ih1 _ _ _ _ _)
   | (with_reducible exact soundingsref08_kind.mono _ _)
   | (with_reducible exact soundingsref08_plain.mono _ _)
   | (with_reducible exact LeO.refl _)
   | (with_reducible exact LeO.none _)
   | (with_reducible refine LeO.ite ?_ ?_)
   | (with_reducible refine LeO.bind ?_ (fun _ => ?_))
   | exact ih0 _ _ _
   | exact ih1 _ _ _ _ _
   | exact soundingsref08_kind.mono _ _
   | exact soundingsref08_plain.mono _ _
   | exact LeO.none _
   | refine LeO.ite ?_ ?_
   | refine LeO.bind ?_ (fun _ => ?_)
theorem soundingsref08_number.mono : ∀ a0 a1 k, LeO (soundingsref08_number.f k a0 a1) (soundingsref08_number.f (k + 1) a0 a1) := by
 intro a0 a1 k
 obtain ⟨ih0, ih1⟩ := soundingsref08_number.mono_l k
 unfold soundingsref08_number.f
 repeat' first
   | (with_reducible exact ih0 _ _ _)
   | (with_reducible exact ih1 _ _ _ _ _)
   | (with_reducible exact soundingsref08_kind.mono _ _)
   | (with_reducible exact soundingsref08_plain.mono _ _)
   | (with_reducible exact LeO.refl _)
   | (with_reducible exact LeO.none _)
   | (with_reducible refine LeO.ite ?_ ?_)
   | (with_reducible refine LeO.bind ?_ (fun _ => ?_))
   | exact ih0 _ _ _
   | exact ih1 _ _ _ _ _
   | exact soundingsref08_kind.mono _ _
   | exact soundingsref08_plain.mono _ _
   | exact LeO.none _
   | refine LeO.ite ?_ ?_
   | refine LeO.bind ?_ (fun _ => ?_)
set_option maxHeartbeats 8000000 in
set_option maxRecDepth 100000 in
theorem soundingsref08_number.calls (k : Nat) (a0 : ByteArray) (a1 : Int) (r : Int) (w : World) (h : soundingsref08_number.f k a0 a1 = some r) :
  Calls Tryz.prog 53 #[.string a0, .int .i64 a1] w fun e w' => e = .returned (.int .i64 r) ∧ Drawn0 w w' := by
 have H : (soundingsref08_number.l0 k a0 a1 a1) = some r := h
 clear h
 have H' := Aside0.mk H
 clear H
 go_enter Tryz.func53, Tryz.ntmps53
 go_wp2
 go_loopg [5] k (fun kq v5 w' => ∃ (x5_1 : Int), v5 = .int .i64 x5_1 ∧ Aside0 (soundingsref08_number.l0 kq a0 a1 x5_1 = some r) ∧ Aside0 (kq ≤ k) ∧ Drawn0 w w')
 case atStart => exact ⟨(a1), (by first | rfl | (simp; done) | (simp [*]; done)), H', ⟨Nat.le_refl _⟩, by repeat (first | exact Drawn0.refl _ | apply Drawn0.step)⟩
 case round =>
  clear H'
  try clear p2
  obtain ⟨x5_1, rfl, HA, HK1, ⟨m1, rfl⟩⟩ := hrel
  cases gk with
  | zero => exact absurd HA.out (by simp [soundingsref08_number.l0])
  | succ k1 =>
   have H := HA.out
   clear HA
   simp only [soundingsref08_number.l0] at H
   by_cases c3 : x5_1 < (a0.size : Int)
   ·rw [if_pos c3] at H
    have c3b0 : decide (x5_1 < (a0.size : Int)) = true := decide_eq_true c3
    clear c3
    by_cases c4 : 0 ≤ x5_1
    ·rw [if_pos c4] at H
     have c4b0 : decide (0 ≤ x5_1) = true := decide_eq_true c4
     clear c4
     replace H := Option.bind_eq_some_iff.mp H
     obtain ⟨t313, A60, H⟩ := H
     replace H : (if t313 = 97 then (soundingsref08_number.j1 k1 a0 a1 x5_1 t313 true) else (if t313 = 48 then (soundingsref08_number.j1 k1 a0 a1 x5_1 t313 true) else (soundingsref08_number.j1 k1 a0 a1 x5_1 t313 (t313 == 46)))) = some r := H
     have A6 := Aside0.mk A60
     clear A60
     have HC7 := Aside0.mk H
     clear H
     have p5 : 0 ≤ (x5_1 : Int) := of_decide_eq_true (by first | (with_reducible assumption) | assumption)
     have q5 : x5_1 < (a0.size : Int) := of_decide_eq_true (by first | (with_reducible assumption) | assumption)
     have hx5 := bt_at a0 x5_1
     replace p5 := eq_true p5
     replace q5 := eq_true q5
     go_upto_region 4 with (first | ((with_reducible refine gate_callee (f := 33) rfl ?_); refine goesL_ (some 15) rfl rfl Tryz.func33 (by kernel_rfl) rfl #[.int .u8 (bt a0 x5_1)] rfl (by (try simp only [List.map_toArray, List.map_cons, List.map_nil]); first | done | rfl | (simp only [List.length_drop, List.length_take]; rfl)) ?_; (with_reducible refine (soundingsref08_kind.calls k1 (bt a0 x5_1) t313 _ A6.out).mono ?_); rintro e w' ⟨rfl, ⟨nd, rfl⟩⟩; refine ⟨_, rfl, ?_⟩))
     (try simp only [Act.put, List.setIfInBounds_toArray, List.set_cons_zero, List.set_cons_succ])
     go_cut [25] (fun v25 wc => ∃ (kq : Nat) (x25_6 : Bool), v25 = .bool x25_6 ∧ Aside0 (soundingsref08_number.j1 kq a0 a1 x5_1 t313 x25_6 = some r) ∧ Aside0 (kq ≤ k1) ∧ Drawn0 w wc)
     case first =>
      have H := HC7.out
      clear HC7
      by_cases c8 : t313 = 97
      ·rw [if_pos c8] at H
       have c8b0 : (t313 == 97) = true := beq_iff_eq.mpr c8
       have c8b1 : (t313 != 97) = false := bne_eq_false_iff_eq.mpr c8
       clear c8
       (first | rw [c8b0] | (simp only [i64_w, i32_w]; rw [c8b0]) | skip)
       have H' := Aside0.mk H
       clear H
       go_wp2
       go_meet
       case rel => exact ⟨_, (true), (by first | rfl | (simp; done) | (simp [*]; done)), H', ⟨by have := HK1.out; first | omega | exact Nat.le_refl _⟩, by repeat (first | exact Drawn0.refl _ | apply Drawn0.step)⟩
      ·rw [if_neg c8] at H
       have c8b0 : (t313 == 97) = false := beq_eq_false_iff_ne.mpr c8
       have c8b1 : (t313 != 97) = true := bne_iff_ne.mpr c8
       (first | rw [c8b0] | (simp only [i64_w, i32_w]; rw [c8b0]) | skip)
       by_cases c9 : t313 = 48
       ·rw [if_pos c9] at H
        have c9b0 : (t313 == 48) = true := beq_iff_eq.mpr c9
        have c9b1 : (t313 != 48) = false := bne_eq_false_iff_eq.mpr c9
        clear c9
        have H' := Aside0.mk H
        clear H
        go_wp2
        go_meet
        case rel => exact ⟨_, (true), (by first | rfl | (simp; done) | (simp [*]; done)), H', ⟨by have := HK1.out; first | omega | exact Nat.le_refl _⟩, by repeat (first | exact Drawn0.refl _ | apply Drawn0.step)⟩
       ·rw [if_neg c9] at H
        have c9b0 : (t313 == 48) = false := beq_eq_false_iff_ne.mpr c9
        have c9b1 : (t313 != 48) = true := bne_iff_ne.mpr c9
        have H' := Aside0.mk H
        clear H
        go_wp2
        go_meet
        case rel => exact ⟨_, ((t313 == 46)), (by first | rfl | (simp; done) | (simp [*]; done)), H', ⟨by have := HK1.out; first | omega | exact Nat.le_refl _⟩, by repeat (first | exact Drawn0.refl _ | apply Drawn0.step)⟩
     case rest =>
      clear HC7
      try clear p2
      try clear c3
      try clear c3b0
      try clear c4
      try clear c4b0
      try clear c5
      try clear p5
      try clear q5
      try clear hx5
      try clear c8
      try clear c8b0
      try clear c8b1
      try clear c9
      try clear c9b0
      try clear c9b1
      try clear p2
      try clear p5
      try clear q5
      obtain ⟨kq, x25_6, rfl, HA, HJ6, ⟨mc6, rfl⟩⟩ := hcut
      cases kq with
      | zero => exact absurd HA.out (by simp [soundingsref08_number.j1])
      | succ kj6 =>
       have H := HA.out
       clear HA
       simp only [soundingsref08_number.j1] at H
       by_cases c10 : x25_6 = true
       ·subst c10
        have H1 : (soundingsref08_number.l0 kj6 a0 a1 (wrap64 (x5_1 + 1))) = some r := by rw [if_pos rfl] at H; exact H
        clear H
        have H := H1
        clear H1
        have H' := Aside0.mk H
        clear H
        go_wp2
        go_roundg kj6
        case measure => have := HK1.out; have := HJ6.out; omega
        case rel => exact ⟨(wrap64 (x5_1 + 1)), (by first | rfl | (simp; done) | (simp [*]; done)), H', ⟨by have := HK1.out; have := HJ6.out; omega⟩, by repeat (first | exact Drawn0.refl _ | apply Drawn0.step)⟩
       ·replace c10 := Bool.eq_false_iff.mpr c10
        subst c10
        have H1 : (if t313 = 43 then (if x5_1 > a1 then (if 0 ≤ (wrap64 (x5_1 - 1)) then (if (wrap64 (x5_1 - 1)) < (a0.size : Int) then (if (bt a0 (wrap64 (x5_1 - 1))) = 101 then (if 0 ≤ a1 then (if a1 ≤ (wrap64 (x5_1 - 1)) then (if (wrap64 (x5_1 - 1)) ≤ (a0.size : Int) then ((soundingsref08_plain.f kj6 (a0.extract (a1 : Int).toNat ((wrap64 (x5_1 - 1)) : Int).toNat)).bind fun t314 => (if t314 = true then (soundingsref08_number.l0 kj6 a0 a1 (wrap64 (x5_1 + 1))) else (some x5_1))) else (none)) else (none)) else (none)) else (if (bt a0 (wrap64 (x5_1 - 1))) = 69 then (if 0 ≤ a1 then (if a1 ≤ (wrap64 (x5_1 - 1)) then (if (wrap64 (x5_1 - 1)) ≤ (a0.size : Int) then ((soundingsref08_plain.f kj6 (a0.extract (a1 : Int).toNat ((wrap64 (x5_1 - 1)) : Int).toNat)).bind fun t315 => (if t315 = true then (soundingsref08_number.l0 kj6 a0 a1 (wrap64 (x5_1 + 1))) else (some x5_1))) else (none)) else (none)) else (none)) else (some x5_1))) else (none)) else (none)) else (some x5_1)) else (if t313 = 45 then (if x5_1 > a1 then (if 0 ≤ (wrap64 (x5_1 - 1)) then (if (wrap64 (x5_1 - 1)) < (a0.size : Int) then (if (bt a0 (wrap64 (x5_1 - 1))) = 101 then (if 0 ≤ a1 then (if a1 ≤ (wrap64 (x5_1 - 1)) then (if (wrap64 (x5_1 - 1)) ≤ (a0.size : Int) then ((soundingsref08_plain.f kj6 (a0.extract (a1 : Int).toNat ((wrap64 (x5_1 - 1)) : Int).toNat)).bind fun t316 => (if t316 = true then (soundingsref08_number.l0 kj6 a0 a1 (wrap64 (x5_1 + 1))) else (some x5_1))) else (none)) else (none)) else (none)) else (if (bt a0 (wrap64 (x5_1 - 1))) = 69 then (if 0 ≤ a1 then (if a1 ≤ (wrap64 (x5_1 - 1)) then (if (wrap64 (x5_1 - 1)) ≤ (a0.size : Int) then ((soundingsref08_plain.f kj6 (a0.extract (a1 : Int).toNat ((wrap64 (x5_1 - 1)) : Int).toNat)).bind fun t317 => (if t317 = true then (soundingsref08_number.l0 kj6 a0 a1 (wrap64 (x5_1 + 1))) else (some x5_1))) else (none)) else (none)) else (none)) else (some x5_1))) else (none)) else (none)) else (some x5_1)) else (some x5_1))) = some r := by rw [if_neg (show ¬ (false = true) by decide)] at H; exact H
        clear H
        have H := H1
        clear H1
        by_cases c11 : t313 = 43
        ·rw [if_pos c11] at H
         have c11b0 : (t313 == 43) = true := beq_iff_eq.mpr c11
         have c11b1 : (t313 != 43) = false := bne_eq_false_iff_eq.mpr c11
         clear c11
         by_cases c12 : x5_1 > a1
         ·rw [if_pos c12] at H
          have c12b0 : decide (a1 < x5_1) = true := decide_eq_true c12
          clear c12
          obtain ⟨ji13, hji13⟩ : ∃ j_ : Int, (wrap64 (x5_1 - 1)) = j_ := ⟨_, rfl⟩
          replace H : (if 0 ≤ (ji13) then (if (ji13) < (a0.size : Int) then (if (bt a0 (ji13)) = 101 then (if 0 ≤ a1 then (if a1 ≤ (ji13) then (if (ji13) ≤ (a0.size : Int) then ((soundingsref08_plain.f kj6 (a0.extract (a1 : Int).toNat ((ji13) : Int).toNat)).bind fun t314 => (if t314 = true then (soundingsref08_number.l0 kj6 a0 a1 (wrap64 (x5_1 + 1))) else (some x5_1))) else (none)) else (none)) else (none)) else (if (bt a0 (ji13)) = 69 then (if 0 ≤ a1 then (if a1 ≤ (ji13) then (if (ji13) ≤ (a0.size : Int) then ((soundingsref08_plain.f kj6 (a0.extract (a1 : Int).toNat ((ji13) : Int).toNat)).bind fun t315 => (if t315 = true then (soundingsref08_number.l0 kj6 a0 a1 (wrap64 (x5_1 + 1))) else (some x5_1))) else (none)) else (none)) else (none)) else (some x5_1))) else (none)) else (none)) = some r := by first | (rw [hji13] at H; exact H) | (simp only [hji13] at H ⊢; exact H)
          have hji13w : (IntKind.i64.wrap (x5_1 - 1)) = ji13 := (i64_w _).trans hji13
          by_cases c14 : 0 ≤ (ji13)
          ·rw [if_pos c14] at H
           have c14b0 : decide (0 ≤ (ji13)) = true := decide_eq_true c14
           clear c14
           by_cases c15 : (ji13) < (a0.size : Int)
           ·rw [if_pos c15] at H
            have c15b0 : decide ((ji13) < (a0.size : Int)) = true := decide_eq_true c15
            clear c15
            by_cases c17 : (bt a0 (ji13)) = 101
            ·rw [if_pos c17] at H
             have c17b0 : ((bt a0 (ji13)) == 101) = true := beq_iff_eq.mpr c17
             have c17b1 : ((bt a0 (ji13)) != 101) = false := bne_eq_false_iff_eq.mpr c17
             clear c17
             by_cases c18 : 0 ≤ a1
             ·rw [if_pos c18] at H
              have c18b0 := eq_true c18
              have c18b1 : decide (0 ≤ a1) = true := decide_eq_true c18
              clear c18
              by_cases c19 : a1 ≤ (ji13)
              ·rw [if_pos c19] at H
               have c19b0 := eq_true c19
               have c19b1 : decide (a1 ≤ (ji13)) = true := decide_eq_true c19
               clear c19
               by_cases c20 : (ji13) ≤ (a0.size : Int)
               ·rw [if_pos c20] at H
                have c20b0 := eq_true c20
                have c20b1 : decide ((ji13) ≤ (a0.size : Int)) = true := decide_eq_true c20
                clear c20
                replace H := Option.bind_eq_some_iff.mp H
                obtain ⟨t314, A210, H⟩ := H
                replace H : (if t314 = true then (soundingsref08_number.l0 kj6 a0 a1 (wrap64 (x5_1 + 1))) else (some x5_1)) = some r := H
                have A21 := Aside0.mk A210
                clear A210
                by_cases c22 : t314 = true
                ·subst c22
                 have H1 : (soundingsref08_number.l0 kj6 a0 a1 (wrap64 (x5_1 + 1))) = some r := by rw [if_pos rfl] at H; exact H
                 clear H
                 have H := H1
                 clear H1
                 have H' := Aside0.mk H
                 clear H
                 have p16 : 0 ≤ ((ji13) : Int) := of_decide_eq_true (by first | (with_reducible assumption) | assumption)
                 have q16 : (ji13) < (a0.size : Int) := of_decide_eq_true (by first | (with_reducible assumption) | assumption)
                 have hx16 := bt_at a0 (ji13)
                 replace p16 := eq_true p16
                 replace q16 := eq_true q16
                 go_wp2_with (first | (go_at_call 78; (with_reducible refine (soundingsref08_plain.calls kj6 (a0.extract (a1 : Int).toNat ((ji13) : Int).toNat) true _ A21.out).mono ?_); rintro e w' ⟨rfl, ⟨nd, rfl⟩⟩))
                 go_roundg kj6
                 case measure => have := HK1.out; have := HJ6.out; omega
                 case rel => exact ⟨(wrap64 (x5_1 + 1)), (by first | rfl | (simp; done) | (simp [*]; done)), H', ⟨by have := HK1.out; have := HJ6.out; omega⟩, by repeat (first | exact Drawn0.refl _ | apply Drawn0.step)⟩
                ·replace c22 := Bool.eq_false_iff.mpr c22
                 subst c22
                 have H1 : (some x5_1) = some r := by rw [if_neg (show ¬ (false = true) by decide)] at H; exact H
                 clear H
                 have H := H1
                 clear H1
                 obtain rfl := Option.some.inj H
                 have p16 : 0 ≤ ((ji13) : Int) := of_decide_eq_true (by first | (with_reducible assumption) | assumption)
                 have q16 : (ji13) < (a0.size : Int) := of_decide_eq_true (by first | (with_reducible assumption) | assumption)
                 have hx16 := bt_at a0 (ji13)
                 replace p16 := eq_true p16
                 replace q16 := eq_true q16
                 go_wp2_with (first | (go_at_call 78; (with_reducible refine (soundingsref08_plain.calls kj6 (a0.extract (a1 : Int).toNat ((ji13) : Int).toNat) false _ A21.out).mono ?_); rintro e w' ⟨rfl, ⟨nd, rfl⟩⟩))
                 go_ret
                 exact ⟨by first | rfl | (simp; done) | (simp only [← hji13] <;> (first | rfl | simp)) | (simp [*]; done), by repeat (first | exact Drawn0.refl _ | apply Drawn0.step)⟩
               ·rw [if_neg c20] at H
                exact absurd H (by simp)
              ·rw [if_neg c19] at H
               exact absurd H (by simp)
             ·rw [if_neg c18] at H
              exact absurd H (by simp)
            ·rw [if_neg c17] at H
             have c17b0 : ((bt a0 (ji13)) == 101) = false := beq_eq_false_iff_ne.mpr c17
             have c17b1 : ((bt a0 (ji13)) != 101) = true := bne_iff_ne.mpr c17
             by_cases c24 : (bt a0 (ji13)) = 69
             ·rw [if_pos c24] at H
              have c24b0 : ((bt a0 (ji13)) == 69) = true := beq_iff_eq.mpr c24
              have c24b1 : ((bt a0 (ji13)) != 69) = false := bne_eq_false_iff_eq.mpr c24
              clear c24
              by_cases c25 : 0 ≤ a1
              ·rw [if_pos c25] at H
               have c25b0 := eq_true c25
               have c25b1 : decide (0 ≤ a1) = true := decide_eq_true c25
               clear c25
               by_cases c26 : a1 ≤ (ji13)
               ·rw [if_pos c26] at H
                have c26b0 := eq_true c26
                have c26b1 : decide (a1 ≤ (ji13)) = true := decide_eq_true c26
                clear c26
                by_cases c27 : (ji13) ≤ (a0.size : Int)
                ·rw [if_pos c27] at H
                 have c27b0 := eq_true c27
                 have c27b1 : decide ((ji13) ≤ (a0.size : Int)) = true := decide_eq_true c27
                 clear c27
                 replace H := Option.bind_eq_some_iff.mp H
                 obtain ⟨t315, A280, H⟩ := H
                 replace H : (if t315 = true then (soundingsref08_number.l0 kj6 a0 a1 (wrap64 (x5_1 + 1))) else (some x5_1)) = some r := H
                 have A28 := Aside0.mk A280
                 clear A280
                 by_cases c29 : t315 = true
                 ·subst c29
                  have H1 : (soundingsref08_number.l0 kj6 a0 a1 (wrap64 (x5_1 + 1))) = some r := by rw [if_pos rfl] at H; exact H
                  clear H
                  have H := H1
                  clear H1
                  have H' := Aside0.mk H
                  clear H
                  have p16 : 0 ≤ ((ji13) : Int) := of_decide_eq_true (by first | (with_reducible assumption) | assumption)
                  have q16 : (ji13) < (a0.size : Int) := of_decide_eq_true (by first | (with_reducible assumption) | assumption)
                  have hx16 := bt_at a0 (ji13)
                  replace p16 := eq_true p16
                  replace q16 := eq_true q16
                  have p23 : 0 ≤ ((ji13) : Int) := of_decide_eq_true (by first | (with_reducible assumption) | assumption)
                  have q23 : (ji13) < (a0.size : Int) := of_decide_eq_true (by first | (with_reducible assumption) | assumption)
                  have hx23 := bt_at a0 (ji13)
                  replace p23 := eq_true p23
                  replace q23 := eq_true q23
                  go_wp2_with (first | (go_at_call 78; (with_reducible refine (soundingsref08_plain.calls kj6 (a0.extract (a1 : Int).toNat ((ji13) : Int).toNat) true _ A28.out).mono ?_); rintro e w' ⟨rfl, ⟨nd, rfl⟩⟩))
                  go_roundg kj6
                  case measure => have := HK1.out; have := HJ6.out; omega
                  case rel => exact ⟨(wrap64 (x5_1 + 1)), (by first | rfl | (simp; done) | (simp [*]; done)), H', ⟨by have := HK1.out; have := HJ6.out; omega⟩, by repeat (first | exact Drawn0.refl _ | apply Drawn0.step)⟩
                 ·replace c29 := Bool.eq_false_iff.mpr c29
                  subst c29
                  have H1 : (some x5_1) = some r := by rw [if_neg (show ¬ (false = true) by decide)] at H; exact H
                  clear H
                  have H := H1
                  clear H1
                  obtain rfl := Option.some.inj H
                  have p16 : 0 ≤ ((ji13) : Int) := of_decide_eq_true (by first | (with_reducible assumption) | assumption)
                  have q16 : (ji13) < (a0.size : Int) := of_decide_eq_true (by first | (with_reducible assumption) | assumption)
                  have hx16 := bt_at a0 (ji13)
                  replace p16 := eq_true p16
                  replace q16 := eq_true q16
                  have p23 : 0 ≤ ((ji13) : Int) := of_decide_eq_true (by first | (with_reducible assumption) | assumption)
                  have q23 : (ji13) < (a0.size : Int) := of_decide_eq_true (by first | (with_reducible assumption) | assumption)
                  have hx23 := bt_at a0 (ji13)
                  replace p23 := eq_true p23
                  replace q23 := eq_true q23
                  go_wp2_with (first | (go_at_call 78; (with_reducible refine (soundingsref08_plain.calls kj6 (a0.extract (a1 : Int).toNat ((ji13) : Int).toNat) false _ A28.out).mono ?_); rintro e w' ⟨rfl, ⟨nd, rfl⟩⟩))
                  go_ret
                  exact ⟨by first | rfl | (simp; done) | (simp only [← hji13] <;> (first | rfl | simp)) | (simp [*]; done), by repeat (first | exact Drawn0.refl _ | apply Drawn0.step)⟩
                ·rw [if_neg c27] at H
                 exact absurd H (by simp)
               ·rw [if_neg c26] at H
                exact absurd H (by simp)
              ·rw [if_neg c25] at H
               exact absurd H (by simp)
             ·rw [if_neg c24] at H
              have c24b0 : ((bt a0 (ji13)) == 69) = false := beq_eq_false_iff_ne.mpr c24
              have c24b1 : ((bt a0 (ji13)) != 69) = true := bne_iff_ne.mpr c24
              obtain rfl := Option.some.inj H
              have p16 : 0 ≤ ((ji13) : Int) := of_decide_eq_true (by first | (with_reducible assumption) | assumption)
              have q16 : (ji13) < (a0.size : Int) := of_decide_eq_true (by first | (with_reducible assumption) | assumption)
              have hx16 := bt_at a0 (ji13)
              replace p16 := eq_true p16
              replace q16 := eq_true q16
              have p23 : 0 ≤ ((ji13) : Int) := of_decide_eq_true (by first | (with_reducible assumption) | assumption)
              have q23 : (ji13) < (a0.size : Int) := of_decide_eq_true (by first | (with_reducible assumption) | assumption)
              have hx23 := bt_at a0 (ji13)
              replace p23 := eq_true p23
              replace q23 := eq_true q23
              go_wp2
              go_ret
              exact ⟨by first | rfl | (simp; done) | (simp only [← hji13] <;> (first | rfl | simp)) | (simp [*]; done), by repeat (first | exact Drawn0.refl _ | apply Drawn0.step)⟩
           ·rw [if_neg c15] at H
            exact absurd H (by simp)
          ·rw [if_neg c14] at H
           exact absurd H (by simp)
         ·rw [if_neg c12] at H
          have c12b0 : decide (a1 < x5_1) = false := decide_eq_false c12
          clear c12
          obtain rfl := Option.some.inj H
          go_wp2
          go_ret
          exact ⟨by first | rfl | (simp; done) | (simp [*]; done), by repeat (first | exact Drawn0.refl _ | apply Drawn0.step)⟩
        ·rw [if_neg c11] at H
         have c11b0 : (t313 == 43) = false := beq_eq_false_iff_ne.mpr c11
         have c11b1 : (t313 != 43) = true := bne_iff_ne.mpr c11
         by_cases c30 : t313 = 45
         ·rw [if_pos c30] at H
          have c30b0 : (t313 == 45) = true := beq_iff_eq.mpr c30
          have c30b1 : (t313 != 45) = false := bne_eq_false_iff_eq.mpr c30
          clear c30
          by_cases c31 : x5_1 > a1
          ·rw [if_pos c31] at H
           have c31b0 : decide (a1 < x5_1) = true := decide_eq_true c31
           clear c31
           obtain ⟨ji32, hji32⟩ : ∃ j_ : Int, (wrap64 (x5_1 - 1)) = j_ := ⟨_, rfl⟩
           replace H : (if 0 ≤ (ji32) then (if (ji32) < (a0.size : Int) then (if (bt a0 (ji32)) = 101 then (if 0 ≤ a1 then (if a1 ≤ (ji32) then (if (ji32) ≤ (a0.size : Int) then ((soundingsref08_plain.f kj6 (a0.extract (a1 : Int).toNat ((ji32) : Int).toNat)).bind fun t316 => (if t316 = true then (soundingsref08_number.l0 kj6 a0 a1 (wrap64 (x5_1 + 1))) else (some x5_1))) else (none)) else (none)) else (none)) else (if (bt a0 (ji32)) = 69 then (if 0 ≤ a1 then (if a1 ≤ (ji32) then (if (ji32) ≤ (a0.size : Int) then ((soundingsref08_plain.f kj6 (a0.extract (a1 : Int).toNat ((ji32) : Int).toNat)).bind fun t317 => (if t317 = true then (soundingsref08_number.l0 kj6 a0 a1 (wrap64 (x5_1 + 1))) else (some x5_1))) else (none)) else (none)) else (none)) else (some x5_1))) else (none)) else (none)) = some r := by first | (rw [hji32] at H; exact H) | (simp only [hji32] at H ⊢; exact H)
           have hji32w : (IntKind.i64.wrap (x5_1 - 1)) = ji32 := (i64_w _).trans hji32
           by_cases c33 : 0 ≤ (ji32)
           ·rw [if_pos c33] at H
            have c33b0 : decide (0 ≤ (ji32)) = true := decide_eq_true c33
            clear c33
            by_cases c34 : (ji32) < (a0.size : Int)
            ·rw [if_pos c34] at H
             have c34b0 : decide ((ji32) < (a0.size : Int)) = true := decide_eq_true c34
             clear c34
             by_cases c36 : (bt a0 (ji32)) = 101
             ·rw [if_pos c36] at H
              have c36b0 : ((bt a0 (ji32)) == 101) = true := beq_iff_eq.mpr c36
              have c36b1 : ((bt a0 (ji32)) != 101) = false := bne_eq_false_iff_eq.mpr c36
              clear c36
              by_cases c37 : 0 ≤ a1
              ·rw [if_pos c37] at H
               have c37b0 := eq_true c37
               have c37b1 : decide (0 ≤ a1) = true := decide_eq_true c37
               clear c37
               by_cases c38 : a1 ≤ (ji32)
               ·rw [if_pos c38] at H
                have c38b0 := eq_true c38
                have c38b1 : decide (a1 ≤ (ji32)) = true := decide_eq_true c38
                clear c38
                by_cases c39 : (ji32) ≤ (a0.size : Int)
                ·rw [if_pos c39] at H
                 have c39b0 := eq_true c39
                 have c39b1 : decide ((ji32) ≤ (a0.size : Int)) = true := decide_eq_true c39
                 clear c39
                 replace H := Option.bind_eq_some_iff.mp H
                 obtain ⟨t316, A400, H⟩ := H
                 replace H : (if t316 = true then (soundingsref08_number.l0 kj6 a0 a1 (wrap64 (x5_1 + 1))) else (some x5_1)) = some r := H
                 have A40 := Aside0.mk A400
                 clear A400
                 by_cases c41 : t316 = true
                 ·subst c41
                  have H1 : (soundingsref08_number.l0 kj6 a0 a1 (wrap64 (x5_1 + 1))) = some r := by rw [if_pos rfl] at H; exact H
                  clear H
                  have H := H1
                  clear H1
                  have H' := Aside0.mk H
                  clear H
                  have p35 : 0 ≤ ((ji32) : Int) := of_decide_eq_true (by first | (with_reducible assumption) | assumption)
                  have q35 : (ji32) < (a0.size : Int) := of_decide_eq_true (by first | (with_reducible assumption) | assumption)
                  have hx35 := bt_at a0 (ji32)
                  replace p35 := eq_true p35
                  replace q35 := eq_true q35
                  go_wp2_with (first | (go_at_call 78; (with_reducible refine (soundingsref08_plain.calls kj6 (a0.extract (a1 : Int).toNat ((ji32) : Int).toNat) true _ A40.out).mono ?_); rintro e w' ⟨rfl, ⟨nd, rfl⟩⟩))
                  go_roundg kj6
                  case measure => have := HK1.out; have := HJ6.out; omega
                  case rel => exact ⟨(wrap64 (x5_1 + 1)), (by first | rfl | (simp; done) | (simp [*]; done)), H', ⟨by have := HK1.out; have := HJ6.out; omega⟩, by repeat (first | exact Drawn0.refl _ | apply Drawn0.step)⟩
                 ·replace c41 := Bool.eq_false_iff.mpr c41
                  subst c41
                  have H1 : (some x5_1) = some r := by rw [if_neg (show ¬ (false = true) by decide)] at H; exact H
                  clear H
                  have H := H1
                  clear H1
                  obtain rfl := Option.some.inj H
                  have p35 : 0 ≤ ((ji32) : Int) := of_decide_eq_true (by first | (with_reducible assumption) | assumption)
                  have q35 : (ji32) < (a0.size : Int) := of_decide_eq_true (by first | (with_reducible assumption) | assumption)
                  have hx35 := bt_at a0 (ji32)
                  replace p35 := eq_true p35
                  replace q35 := eq_true q35
                  go_wp2_with (first | (go_at_call 78; (with_reducible refine (soundingsref08_plain.calls kj6 (a0.extract (a1 : Int).toNat ((ji32) : Int).toNat) false _ A40.out).mono ?_); rintro e w' ⟨rfl, ⟨nd, rfl⟩⟩))
                  go_ret
                  exact ⟨by first | rfl | (simp; done) | (simp only [← hji32] <;> (first | rfl | simp)) | (simp [*]; done), by repeat (first | exact Drawn0.refl _ | apply Drawn0.step)⟩
                ·rw [if_neg c39] at H
                 exact absurd H (by simp)
               ·rw [if_neg c38] at H
                exact absurd H (by simp)
              ·rw [if_neg c37] at H
               exact absurd H (by simp)
             ·rw [if_neg c36] at H
              have c36b0 : ((bt a0 (ji32)) == 101) = false := beq_eq_false_iff_ne.mpr c36
              have c36b1 : ((bt a0 (ji32)) != 101) = true := bne_iff_ne.mpr c36
              by_cases c43 : (bt a0 (ji32)) = 69
              ·rw [if_pos c43] at H
               have c43b0 : ((bt a0 (ji32)) == 69) = true := beq_iff_eq.mpr c43
               have c43b1 : ((bt a0 (ji32)) != 69) = false := bne_eq_false_iff_eq.mpr c43
               clear c43
               by_cases c44 : 0 ≤ a1
               ·rw [if_pos c44] at H
                have c44b0 := eq_true c44
                have c44b1 : decide (0 ≤ a1) = true := decide_eq_true c44
                clear c44
                by_cases c45 : a1 ≤ (ji32)
                ·rw [if_pos c45] at H
                 have c45b0 := eq_true c45
                 have c45b1 : decide (a1 ≤ (ji32)) = true := decide_eq_true c45
                 clear c45
                 by_cases c46 : (ji32) ≤ (a0.size : Int)
                 ·rw [if_pos c46] at H
                  have c46b0 := eq_true c46
                  have c46b1 : decide ((ji32) ≤ (a0.size : Int)) = true := decide_eq_true c46
                  clear c46
                  replace H := Option.bind_eq_some_iff.mp H
                  obtain ⟨t317, A470, H⟩ := H
                  replace H : (if t317 = true then (soundingsref08_number.l0 kj6 a0 a1 (wrap64 (x5_1 + 1))) else (some x5_1)) = some r := H
                  have A47 := Aside0.mk A470
                  clear A470
                  by_cases c48 : t317 = true
                  ·subst c48
                   have H1 : (soundingsref08_number.l0 kj6 a0 a1 (wrap64 (x5_1 + 1))) = some r := by rw [if_pos rfl] at H; exact H
                   clear H
                   have H := H1
                   clear H1
                   have H' := Aside0.mk H
                   clear H
                   have p35 : 0 ≤ ((ji32) : Int) := of_decide_eq_true (by first | (with_reducible assumption) | assumption)
                   have q35 : (ji32) < (a0.size : Int) := of_decide_eq_true (by first | (with_reducible assumption) | assumption)
                   have hx35 := bt_at a0 (ji32)
                   replace p35 := eq_true p35
                   replace q35 := eq_true q35
                   have p42 : 0 ≤ ((ji32) : Int) := of_decide_eq_true (by first | (with_reducible assumption) | assumption)
                   have q42 : (ji32) < (a0.size : Int) := of_decide_eq_true (by first | (with_reducible assumption) | assumption)
                   have hx42 := bt_at a0 (ji32)
                   replace p42 := eq_true p42
                   replace q42 := eq_true q42
                   go_wp2_with (first | (go_at_call 78; (with_reducible refine (soundingsref08_plain.calls kj6 (a0.extract (a1 : Int).toNat ((ji32) : Int).toNat) true _ A47.out).mono ?_); rintro e w' ⟨rfl, ⟨nd, rfl⟩⟩))
                   go_roundg kj6
                   case measure => have := HK1.out; have := HJ6.out; omega
                   case rel => exact ⟨(wrap64 (x5_1 + 1)), (by first | rfl | (simp; done) | (simp [*]; done)), H', ⟨by have := HK1.out; have := HJ6.out; omega⟩, by repeat (first | exact Drawn0.refl _ | apply Drawn0.step)⟩
                  ·replace c48 := Bool.eq_false_iff.mpr c48
                   subst c48
                   have H1 : (some x5_1) = some r := by rw [if_neg (show ¬ (false = true) by decide)] at H; exact H
                   clear H
                   have H := H1
                   clear H1
                   obtain rfl := Option.some.inj H
                   have p35 : 0 ≤ ((ji32) : Int) := of_decide_eq_true (by first | (with_reducible assumption) | assumption)
                   have q35 : (ji32) < (a0.size : Int) := of_decide_eq_true (by first | (with_reducible assumption) | assumption)
                   have hx35 := bt_at a0 (ji32)
                   replace p35 := eq_true p35
                   replace q35 := eq_true q35
                   have p42 : 0 ≤ ((ji32) : Int) := of_decide_eq_true (by first | (with_reducible assumption) | assumption)
                   have q42 : (ji32) < (a0.size : Int) := of_decide_eq_true (by first | (with_reducible assumption) | assumption)
                   have hx42 := bt_at a0 (ji32)
                   replace p42 := eq_true p42
                   replace q42 := eq_true q42
                   go_wp2_with (first | (go_at_call 78; (with_reducible refine (soundingsref08_plain.calls kj6 (a0.extract (a1 : Int).toNat ((ji32) : Int).toNat) false _ A47.out).mono ?_); rintro e w' ⟨rfl, ⟨nd, rfl⟩⟩))
                   go_ret
                   exact ⟨by first | rfl | (simp; done) | (simp only [← hji32] <;> (first | rfl | simp)) | (simp [*]; done), by repeat (first | exact Drawn0.refl _ | apply Drawn0.step)⟩
                 ·rw [if_neg c46] at H
                  exact absurd H (by simp)
                ·rw [if_neg c45] at H
                 exact absurd H (by simp)
               ·rw [if_neg c44] at H
                exact absurd H (by simp)
              ·rw [if_neg c43] at H
               have c43b0 : ((bt a0 (ji32)) == 69) = false := beq_eq_false_iff_ne.mpr c43
               have c43b1 : ((bt a0 (ji32)) != 69) = true := bne_iff_ne.mpr c43
               obtain rfl := Option.some.inj H
               have p35 : 0 ≤ ((ji32) : Int) := of_decide_eq_true (by first | (with_reducible assumption) | assumption)
               have q35 : (ji32) < (a0.size : Int) := of_decide_eq_true (by first | (with_reducible assumption) | assumption)
               have hx35 := bt_at a0 (ji32)
               replace p35 := eq_true p35
               replace q35 := eq_true q35
               have p42 : 0 ≤ ((ji32) : Int) := of_decide_eq_true (by first | (with_reducible assumption) | assumption)
               have q42 : (ji32) < (a0.size : Int) := of_decide_eq_true (by first | (with_reducible assumption) | assumption)
               have hx42 := bt_at a0 (ji32)
               replace p42 := eq_true p42
               replace q42 := eq_true q42
               go_wp2
               go_ret
               exact ⟨by first | rfl | (simp; done) | (simp only [← hji32] <;> (first | rfl | simp)) | (simp [*]; done), by repeat (first | exact Drawn0.refl _ | apply Drawn0.step)⟩
            ·rw [if_neg c34] at H
             exact absurd H (by simp)
           ·rw [if_neg c33] at H
            exact absurd H (by simp)
          ·rw [if_neg c31] at H
           have c31b0 : decide (a1 < x5_1) = false := decide_eq_false c31
           clear c31
           obtain rfl := Option.some.inj H
           go_wp2
           go_ret
           exact ⟨by first | rfl | (simp; done) | (simp [*]; done), by repeat (first | exact Drawn0.refl _ | apply Drawn0.step)⟩
         ·rw [if_neg c30] at H
          have c30b0 : (t313 == 45) = false := beq_eq_false_iff_ne.mpr c30
          have c30b1 : (t313 != 45) = true := bne_iff_ne.mpr c30
          obtain rfl := Option.some.inj H
          go_wp2
          go_ret
          exact ⟨by first | rfl | (simp; done) | (simp [*]; done), by repeat (first | exact Drawn0.refl _ | apply Drawn0.step)⟩
    ·rw [if_neg c4] at H
     exact absurd H (by simp)
   ·rw [if_neg c3] at H
    have c3b0 : decide (x5_1 < (a0.size : Int)) = false := decide_eq_false c3
    clear c3
    obtain rfl := Option.some.inj H
    go_wp2
    go_ret
    exact ⟨by first | rfl | (simp; done) | (simp [*]; done), by repeat (first | exact Drawn0.refl _ | apply Drawn0.step)⟩

end Go.Proofs.YtjleceekccehoaaGreatDoor.Pr
