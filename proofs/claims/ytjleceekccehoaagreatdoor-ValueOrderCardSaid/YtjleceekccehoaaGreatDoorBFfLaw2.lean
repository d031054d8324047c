/- Texts of this session, cut down to what one claim needs and joined: FfLaw2. -/
import Derived.Test.YtjleceekccehoaaGreatDoorBFfLaw
set_option linter.unusedVariables false
set_option linter.unusedSimpArgs false
namespace Go.Proofs.YtjleceekccehoaaGreatDoor.Pr
open Go.RowKit Go.Proofs.Fl Go.Proofs.YtjleceekccehoaaGreatDoorW.PrintWords Go.Proofs.YtjleceekccehoaaGreatDoorW.PrintLast Go.Proofs.YtjleceekccehoaaGreatDoorW.PrintMore

theorem cmp_three (x y : Nat) : cmpF x y = -1 ∨ cmpF x y = 0 ∨ cmpF x y = 1 := by
  rw [cmpF_lex]; rcases lex_cases (keyF x) (keyF y) with h | h | h <;> simp [h]
set_option maxHeartbeats 1000000 in
set_option maxRecDepth 100000 in
theorem order_walk (a b c x y z : Int) (s : Bool) (w : World) (hA : LaidA w) (hx : cmpF a.toNat b.toNat = x) (hy : cmpF b.toNat c.toNat = y) (hz : cmpF a.toNat c.toNat = z) (hs : (normI a == normI b) = s) (hi : normI (normI a) = normI a)
    (hbx : cmpF b.toNat a.toNat = -x) (hsx : s = true → x = 0) (x3 : x = -1 ∨ x = 0 ∨ x = 1) (y3 : y = -1 ∨ y = 0 ∨ y = 1) (z3 : z = -1 ∨ z = 0 ∨ z = 1) (t1 : 0 ≤ x → 0 ≤ y → 0 ≤ z) (t2 : x ≤ 0 → y ≤ 0 → z ≤ 0) :
    Calls Tryz.prog 4 #[.int .u64 a, .int .u64 b, .int .u64 c] w fun e w' => e = .returned (.bool true) ∧ Below w.heap.size w w' := by
  have HA := Aside0.mk hA
  obtain ⟨na, hna⟩ : ∃ x, normI a = x := ⟨_, rfl⟩
  obtain ⟨nb, hnb⟩ : ∃ x, normI b = x := ⟨_, rfl⟩
  rw [hna] at hi hs
  rw [hnb] at hs
  have HNA := Aside0.mk hna
  have HNB := Aside0.mk hnb
  have HX := Aside0.mk hx
  have HY := Aside0.mk hy
  have HZ := Aside0.mk hz
  have HI := Aside0.mk hi
  have HBX := Aside0.mk hbx
  have HSB : Aside0 (∀ w, Calls Tryz.prog 12 #[.int .u64 a, .int .u64 b] w fun e w' => e = .returned (.bool s) ∧ Drawn0 w w') := ⟨fun w => by have := same_any a b w; rw [hna, hnb, hs] at this; exact this⟩
  have HSN : Aside0 (∀ w, Calls Tryz.prog 12 #[.int .u64 a, .int .u64 na] w fun e w' => e = .returned (.bool true) ∧ Drawn0 w w') := ⟨fun w => by have := same_any a na w; rw [hna, hi] at this; simpa using this⟩
  clear hA hna hnb hx hy hz hi hbx hs
  rcases x3 with rfl | rfl | rfl <;> rcases y3 with rfl | rfl | rfl <;> rcases z3 with rfl | rfl | rfl <;> first | (exfalso; have k1 := t1 (by decide) (by decide); revert k1; decide) | (exfalso; have k1 := t2 (by decide) (by decide); revert k1; decide) | skip
  all_goals
    clear t1 t2
    cases s <;> first | (exfalso; have k1 := hsx rfl; revert k1; decide) | skip
  all_goals
    clear hsx
    go_enter Tryz.func4, Tryz.ntmps4
    go_wp2_with fail
    refine (awake_any _ HA.out).mono ?_
    rintro e w1 ⟨rfl, hb_⟩
    have HB := Aside0.mk hb_
    clear hb_
    go_wp2_with fail
    refine (cmp_any a b _).mono ?_
    rw [HX.out]
    rintro e w7 ⟨rfl, rfl⟩
    go_wp2_with fail
    refine (cmp_any b c _).mono ?_
    rw [HY.out]
    rintro e w7 ⟨rfl, rfl⟩
    go_wp2_with fail
    refine (cmp_any a c _).mono ?_
    rw [HZ.out]
    rintro e w7 ⟨rfl, rfl⟩
    go_wp2_with fail
    refine (HSB.out _).mono ?_
    rintro e w4 ⟨rfl, ⟨m2, rfl⟩⟩
    go_wp2_with fail
    refine (norm_any a _).mono ?_
    rw [HNA.out]
    rintro e w2 ⟨rfl, rfl⟩
    go_wp2_with fail
    refine (norm_any na _).mono ?_
    rw [HI.out]
    rintro e w2 ⟨rfl, rfl⟩
    go_wp2_with fail
    refine (norm_any a _).mono ?_
    rw [HNA.out]
    rintro e w2 ⟨rfl, rfl⟩
    go_wp2_with fail
    refine (norm_any a _).mono ?_
    rw [HNA.out]
    rintro e w2 ⟨rfl, rfl⟩
    go_wp2_with fail
    refine (HSN.out _).mono ?_
    rintro e w4 ⟨rfl, ⟨m3, rfl⟩⟩
    go_wp2_with fail
    refine (cmp_any b a _).mono ?_
    rw [HBX.out]
    rintro e w7 ⟨rfl, rfl⟩
    go_wp2_with fail
    go_ret
    exact ⟨by first | rfl | simp, by repeat (first | (with_reducible exact HB.out) | apply pw_below_drewN | exact HB.out)⟩
theorem order_law (a b c : Int) (w : World) (hA : LaidA w) (a0 : 0 ≤ a) (a1 : a ≤ 18446744073709551615) (b0 : 0 ≤ b) (b1 : b ≤ 18446744073709551615) (c0 : 0 ≤ c) (c1 : c ≤ 18446744073709551615) :
    Calls Tryz.prog 4 #[.int .u64 a, .int .u64 b, .int .u64 c] w fun e w' => e = .returned (.bool true) ∧ Below w.heap.size w w' :=
  order_walk a b c _ _ _ _ w hA rfl rfl rfl rfl (norm_idem a a0 a1) (cmp_anti _ _) (fun h => cmp_same a b a0 a1 b0 b1 (by simpa using h)) (cmp_three _ _) (cmp_three _ _) (cmp_three _ _) (fun h1 h2 => (cmp_trans _ _ _).1 h1 h2) (fun h1 h2 => (cmp_trans _ _ _).2 h1 h2)
end Go.Proofs.YtjleceekccehoaaGreatDoor.Pr
