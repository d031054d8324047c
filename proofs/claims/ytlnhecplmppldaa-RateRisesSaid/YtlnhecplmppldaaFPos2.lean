/- Floats that are not below nought, second part: products, quotients, and sums within binades; whole numbers as floats. Plain: no program. -/
import Derived.Test.YtlnhecplmppldaaFPos
set_option linter.unusedVariables false
set_option linter.unusedSimpArgs false
namespace Go.Proofs.Fl
open Go

/-- Between two binades' heads. -/
def InR (lo hi x : Nat) : Prop := lo * 2 ^ 52 ≤ x ∧ x ≤ hi * 2 ^ 52
theorem log2_of {n k : Nat} (h1 : 2 ^ k ≤ n) (h2 : n < 2 ^ (k + 1)) : n.log2 = k := by
  have hn : n ≠ 0 := by have := Nat.two_pow_pos k; omega
  have a := Nat.log2_self_le hn
  have b := Nat.lt_log2_self (n := n)
  have c := (Nat.pow_lt_pow_iff_right (by omega : 1 < 2)).1 (Nat.lt_of_le_of_lt a h2)
  have d := (Nat.pow_lt_pow_iff_right (by omega : 1 < 2)).1 (Nat.lt_of_le_of_lt h1 b)
  omega
theorem InR.exp {lo hi x : Nat} (h : InR lo hi x) (h1 : 1 ≤ lo) (h2 : hi ≤ 2046) : 2 ^ 52 ≤ x ∧ x < INF ∧ lo ≤ x / 2 ^ 52 ∧ x / 2 ^ 52 ≤ hi := by
  obtain ⟨a, b⟩ := h
  have c : 1 * 2 ^ 52 ≤ lo * 2 ^ 52 := Nat.mul_le_mul_right _ h1
  have d : hi * 2 ^ 52 ≤ 2046 * 2 ^ 52 := Nat.mul_le_mul_right _ h2
  refine ⟨by omega, by unfold INF; omega, (Nat.le_div_iff_mul_le (by decide)).2 a, ?_⟩
  rw [Nat.div_le_iff_le_mul_add_pred (by decide)]
  omega
theorem read_norm (x : Nat) (h1 : 2 ^ 52 ≤ x) (h2 : x < INF) : Ieee.double.read x = .number false (2 ^ 52 + x % 2 ^ 52) (-1074 + (x / 2 ^ 52 - 1 : Nat)) := by
  unfold INF at h2
  have h63 : x % 2 ^ 63 = x := Nat.mod_eq_of_lt (by omega)
  have hs : (x / 2 ^ 63 % 2 == 1) = false := by rw [Nat.div_eq_of_lt (by omega)]; rfl
  unfold Ieee.Format.read
  simp only [sw, bn, ir, h63, hs, lp]
  rw [if_neg (by omega), if_pos h2]
theorem mant_log (x : Nat) : (2 ^ 52 + x % 2 ^ 52).log2 = 52 := log2_of (by omega) (by omega)

theorem mul_in {a b c d x y : Nat} (hx : InR a b x) (hy : InR c d y) (ha : 1 ≤ a) (hb : b ≤ 2046) (hc : 1 ≤ c) (hd : d ≤ 2046) (h1 : 1024 ≤ a + c) (h2 : b + d ≤ 3067) : ∃ r, dOp .mul x y = some r ∧ InR (a + c - 1023) (b + d - 1021) r := by
  obtain ⟨x1, x2, x3, x4⟩ := hx.exp ha hb
  obtain ⟨y1, y2, y3, y4⟩ := hy.exp hc hd
  have hm1 : 2 ^ 52 ≤ 2 ^ 52 + x % 2 ^ 52 := Nat.le_add_right _ _
  have hm2 : 2 ^ 52 + x % 2 ^ 52 < 2 ^ 53 := by omega
  have hn1 : 2 ^ 52 ≤ 2 ^ 52 + y % 2 ^ 52 := Nat.le_add_right _ _
  have hn2 : 2 ^ 52 + y % 2 ^ 52 < 2 ^ 53 := by omega
  have hT1 : 2 ^ 104 ≤ (2 ^ 52 + x % 2 ^ 52) * (2 ^ 52 + y % 2 ^ 52) := by
    calc 2 ^ 104 = 2 ^ 52 * 2 ^ 52 := by decide
      _ ≤ _ := Nat.mul_le_mul hm1 hn1
  have hT2 : (2 ^ 52 + x % 2 ^ 52) * (2 ^ 52 + y % 2 ^ 52) < 2 ^ 106 := by
    calc _ < 2 ^ 53 * 2 ^ 53 := Nat.mul_lt_mul'' hm2 hn2
      _ = 2 ^ 106 := by decide
  have hread := read_norm x x1 x2
  have hread2 := read_norm y y1 y2
  generalize 2 ^ 52 + x % 2 ^ 52 = m at *
  generalize 2 ^ 52 + y % 2 ^ 52 = n at *
  have hT0 : m * n ≠ 0 := by have : 0 < 2 ^ 104 := Nat.two_pow_pos _; omega
  have hl1 : 104 ≤ (m * n).log2 := (Nat.le_log2 hT0).2 hT1
  have hl2 : (m * n).log2 < 106 := (Nat.log2_lt hT0).2 hT2
  refine ⟨_, by rw [dOp_mul, hread, hread2]; rfl, ?_⟩
  show InR _ _ (Ieee.double.write (.number false (m * n) _))
  rw [write_pos, if_neg hT0]
  constructor
  · rcases rung_in (m * n) (-1074 + (x / 2 ^ 52 - 1 : Nat) + (-1074 + (y / 2 ^ 52 - 1 : Nat))) (x / 2 ^ 52 + y / 2 ^ 52 + (m * n).log2 - 1128) hT0 (by omega) with h | h
    · refine Nat.le_trans (Nat.mul_le_mul_right _ ?_) h; omega
    · rw [h]; unfold INF; exact Nat.mul_le_mul_right _ (by omega)
  · refine Nat.le_trans (rung_le (m * n) _ (x / 2 ^ 52 + y / 2 ^ 52 + (m * n).log2 - 1128) (by omega)) (Nat.mul_le_mul_right _ (by omega))

theorem quo_in {a b c d x y : Nat} (hx : InR a b x) (hy : InR c d y) (ha : 1 ≤ a) (hb : b ≤ 2046) (hc : 1 ≤ c) (hd : d ≤ 2046) (h1 : d ≤ a + 1021) (h2 : b + 1024 ≤ 2046 + c) : ∃ r, dOp .quo x y = some r ∧ InR (a + 1022 - d) (b + 1024 - c) r := by
  obtain ⟨x1, x2, x3, x4⟩ := hx.exp ha hb
  obtain ⟨y1, y2, y3, y4⟩ := hy.exp hc hd
  have hm1 : 2 ^ 52 ≤ 2 ^ 52 + x % 2 ^ 52 := Nat.le_add_right _ _
  have hm2 : 2 ^ 52 + x % 2 ^ 52 < 2 ^ 53 := by omega
  have hn1 : 2 ^ 52 ≤ 2 ^ 52 + y % 2 ^ 52 := Nat.le_add_right _ _
  have hn2 : 2 ^ 52 + y % 2 ^ 52 < 2 ^ 53 := by omega
  have hread := read_norm x x1 x2
  have hread2 := read_norm y y1 y2
  have hlm := mant_log x
  have hln := mant_log y
  generalize 2 ^ 52 + x % 2 ^ 52 = m at *
  generalize 2 ^ 52 + y % 2 ^ 52 = n at *
  have hn0 : n ≠ 0 := by omega
  have hq1 : 2 ^ 53 ≤ m * 2 ^ 54 / n := by
    rw [Nat.le_div_iff_mul_le (by omega)]
    calc 2 ^ 53 * n ≤ 2 ^ 53 * 2 ^ 53 := Nat.mul_le_mul_left _ (by omega)
      _ = 2 ^ 52 * 2 ^ 54 := by decide
      _ ≤ m * 2 ^ 54 := Nat.mul_le_mul_right _ hm1
  have hq2 : m * 2 ^ 54 / n < 2 ^ 55 := by
    rw [Nat.div_lt_iff_lt_mul (by omega)]
    calc m * 2 ^ 54 < 2 ^ 53 * 2 ^ 54 := Nat.mul_lt_mul_of_pos_right hm2 (by decide)
      _ = 2 ^ 55 * 2 ^ 52 := by decide
      _ ≤ 2 ^ 55 * n := Nat.mul_le_mul_left _ hn1
  have hst : ∀ z : Bool, z.toNat ≤ 1 := fun z => by cases z <;> decide
  have hs := hst (m * 2 ^ 54 % n != 0)
  have hT1 : 2 ^ 54 ≤ 2 * (m * 2 ^ 54 / n) + (m * 2 ^ 54 % n != 0).toNat := by omega
  have hT2 : 2 * (m * 2 ^ 54 / n) + (m * 2 ^ 54 % n != 0).toNat < 2 ^ 56 := by omega
  have hquo : (Ieee.Datum.number false m (-1074 + (x / 2 ^ 52 - 1 : Nat))).quotient 54 (.number false n (-1074 + (y / 2 ^ 52 - 1 : Nat))) = some (.number false (2 * (m * 2 ^ 54 / n) + (m * 2 ^ 54 % n != 0).toNat) (-1074 + (x / 2 ^ 52 - 1 : Nat) - (-1074 + (y / 2 ^ 52 - 1 : Nat)) - 54 - 1)) := by
    unfold Ieee.Datum.quotient
    dsimp only
    rw [if_neg hn0]
    simp only [hlm, hln, shl]
    rfl
  rw [dOp_quo, hread, hread2, hquo]
  generalize 2 * (m * 2 ^ 54 / n) + (m * 2 ^ 54 % n != 0).toNat = T at *
  have hT0 : T ≠ 0 := by have : 0 < 2 ^ 54 := Nat.two_pow_pos _; omega
  have hl1 : 54 ≤ T.log2 := (Nat.le_log2 hT0).2 hT1
  have hl2 : T.log2 < 56 := (Nat.log2_lt hT0).2 hT2
  refine ⟨_, rfl, ?_⟩
  rw [write_pos, if_neg hT0]
  constructor
  · rcases rung_in T (-1074 + (x / 2 ^ 52 - 1 : Nat) - (-1074 + (y / 2 ^ 52 - 1 : Nat)) - 54 - 1) (x / 2 ^ 52 + T.log2 + 967 - y / 2 ^ 52) hT0 (by omega) with h | h
    · refine Nat.le_trans (Nat.mul_le_mul_right _ ?_) h; omega
    · rw [h]; unfold INF; exact Nat.mul_le_mul_right _ (by omega)
  · refine Nat.le_trans (rung_le T _ (x / 2 ^ 52 + T.log2 + 967 - y / 2 ^ 52) (by omega)) (Nat.mul_le_mul_right _ (by omega))

theorem U_head (h : Nat) (h1 : 1 ≤ h) : U (h * 2 ^ 52) = 2 ^ (51 + h) := by
  unfold U
  have c : 1 * 2 ^ 52 ≤ h * 2 ^ 52 := Nat.mul_le_mul_right _ h1
  rw [if_neg (by omega), Nat.mul_mod_left, Nat.mul_div_cancel _ (by decide), Nat.add_zero, ← Nat.pow_add]
  congr 1
  omega
theorem add_in {a b d x y : Nat} (hx : InR a b x) (hy : y ≤ d * 2 ^ 52) (ha : 1 ≤ a) (hb : b ≤ 2043) (hd : 1 ≤ d) (hd2 : d ≤ 2043) : ∃ r, dOp .add x y = some r ∧ InR a (max b d + 2) r := by
  obtain ⟨x1, x2, x3, x4⟩ := hx.exp ha (by omega)
  have hy2 : y < INF := by
    have : d * 2 ^ 52 ≤ 2043 * 2 ^ 52 := Nat.mul_le_mul_right _ hd2
    unfold INF; omega
  obtain ⟨T, bb, hr, hT⟩ := add_fin x y x2 hy2
  have hUx1 : 2 ^ (51 + a) ≤ U x := by rw [← U_head a ha]; exact U_le hx.1
  have hUx2 : U x ≤ 2 ^ (51 + b) := by rw [← U_head b (by omega)]; exact U_le hx.2
  have hUy : U y ≤ 2 ^ (51 + d) := by rw [← U_head d hd]; exact U_le hy
  have hM1 : 2 ^ (51 + b) ≤ 2 ^ (51 + max b d) := Nat.pow_le_pow_right (by omega) (by omega)
  have hM2 : 2 ^ (51 + d) ≤ 2 ^ (51 + max b d) := Nat.pow_le_pow_right (by omega) (by omega)
  have hM3 : 2 ^ (52 + max b d) = 2 * 2 ^ (51 + max b d) := by rw [show 52 + max b d = (51 + max b d) + 1 from by omega, Nat.pow_succ]; omega
  have hT0 : T ≠ 0 := by
    rintro rfl
    have := Nat.two_pow_pos (51 + a)
    omega
  have hlo := Nat.log2_self_le hT0
  have hhi := Nat.lt_log2_self (n := T)
  have hA : 2 ^ (T.log2 + bb) ≤ 2 ^ (52 + max b d) := by
    have : 2 ^ (T.log2 + bb) ≤ T * 2 ^ bb := by rw [Nat.pow_add]; exact Nat.mul_le_mul_right _ hlo
    omega
  have hB : 2 ^ (51 + a) < 2 ^ (T.log2 + bb + 1) := by
    have : T * 2 ^ bb < 2 ^ (T.log2 + bb + 1) := by
      rw [show T.log2 + bb + 1 = (T.log2 + 1) + bb from by omega, Nat.pow_add]; exact Nat.mul_lt_mul_of_pos_right hhi (Nat.two_pow_pos _)
    omega
  have hA' := (Nat.pow_le_pow_iff_right (by omega : 1 < 2)).1 hA
  have hB' := (Nat.pow_lt_pow_iff_right (by omega : 1 < 2)).1 hB
  refine ⟨_, hr, ?_⟩
  rw [if_neg hT0]
  constructor
  · rcases rung_in T (-1074 + (bb : Int)) (T.log2 + bb - 52) hT0 (by omega) with h | h
    · refine Nat.le_trans (Nat.mul_le_mul_right _ ?_) h; omega
    · rw [h]; unfold INF; exact Nat.mul_le_mul_right _ (by omega)
  · refine Nat.le_trans (rung_le T _ (T.log2 + bb - 52) (by omega)) (Nat.mul_le_mul_right _ (by omega))

/-- A whole number as a float. -/
theorem arr3 (q : Nat) : 1023 ≤ q + 1022 + 1 := by omega
theorem arr4 (q k : Nat) (h : q ≤ k) : q + 1022 + 2 ≤ 1024 + k := by omega
theorem ofInt_in (d : Int) (k : Nat) (h1 : 1 ≤ d) (h2 : d ≤ 2 ^ k) (hk : k ≤ 1000) : InR 1023 (1024 + k) (floatOfInt .f64 d) := by
  have e : floatOfInt .f64 d = Ieee.double.write (.number false d.natAbs 0) := by
    show Ieee.double.write (.number (decide (d < 0)) d.natAbs 0) = _
    rw [decide_eq_false (by omega)]
  rw [e, write_pos]
  have hT0 : d.natAbs ≠ 0 := by omega
  rw [if_neg hT0]
  have hlo := Nat.log2_self_le hT0
  have hle : d.natAbs ≤ 2 ^ k := by
    have : ((2 ^ k : Nat) : Int) = (2 : Int) ^ k := by simp
    omega
  have hl := (Nat.pow_le_pow_iff_right (by omega : 1 < 2)).1 (Nat.le_trans hlo hle)
  constructor
  · rcases rung_in d.natAbs 0 (d.natAbs.log2 + 1022) hT0 (by omega) with h | h
    · exact Nat.le_trans (Nat.mul_le_mul_right _ (arr3 _)) h
    · rw [h]; unfold INF; exact Nat.mul_le_mul_right _ (by omega)
  · exact Nat.le_trans (rung_le d.natAbs 0 (d.natAbs.log2 + 1022) (by omega)) (Nat.mul_le_mul_right _ (arr4 _ _ hl))
theorem ofInt_zero : floatOfInt .f64 0 = 0 := by decide

/-! ### Products and quotients that are only not below nought -/
theorem not_nan {x : Nat} (h : x ≤ INF) : isN x = false := by
  rw [isN_iff]
  unfold INF at h
  have : ¬ 2047 * 2 ^ 52 < x % 2 ^ 63 := by rw [Nat.mod_eq_of_lt (by omega)]; omega
  exact decide_eq_false this
theorem nf_nn {x : Nat} (h : x ≤ INF) : nf x = some x := by unfold nf; rw [not_nan h]; rfl
theorem quo_nn (x y : Nat) (hx : x < INF) (hy : y ≤ INF) (hy0 : 0 < y) : ∃ r, dOp .quo x y = some r ∧ r ≤ INF := by
  obtain ⟨m, e1, r1, u1⟩ := read_fin x hx
  rcases Nat.lt_or_eq_of_le hy with h2 | rfl
  · obtain ⟨n, e2, r2, u2⟩ := read_fin y h2
    have hn : n ≠ 0 := by
      rintro rfl
      have := U_lt hy0
      rw [← u2] at this; omega
    rw [dOp_quo, r1, r2]
    unfold Ieee.Datum.quotient
    dsimp only
    rw [if_neg hn]
    exact ⟨_, rfl, by show Ieee.double.write (.number false _ _) ≤ _; rw [write_pos]; exact pos_INF _ _⟩
  · exact ⟨0, by rw [dOp_quo, r1, read_inf]; unfold Ieee.Datum.quotient; rfl, Nat.zero_le _⟩
theorem mul_nn (x y : Nat) (hx : x < INF) (hx0 : 0 < x) (hy : y ≤ INF) : ∃ r, dOp .mul x y = some r ∧ r ≤ INF := by
  obtain ⟨m, e1, r1, u1⟩ := read_fin x hx
  have hm : m ≠ 0 := by
    rintro rfl
    have := U_lt hx0
    rw [← u1] at this; omega
  rcases Nat.lt_or_eq_of_le hy with h2 | rfl
  · obtain ⟨n, e2, r2, u2⟩ := read_fin y h2
    exact ⟨_, by rw [dOp_mul, r1, r2]; rfl, by show Ieee.double.write (.number false _ _) ≤ _; rw [write_pos]; exact pos_INF _ _⟩
  · exact ⟨INF, by rw [dOp_mul, r1, read_inf]; show Option.map _ (if m = 0 then none else _) = _; rw [if_neg hm]; rfl, Nat.le_refl _⟩
theorem mul_comm_nn (x y : Nat) (hx : x < INF) (hx0 : 0 < x) (hy : y ≤ INF) : ∃ r, dOp .mul y x = some r ∧ r ≤ INF := by
  obtain ⟨m, e1, r1, u1⟩ := read_fin x hx
  have hm : m ≠ 0 := by
    rintro rfl
    have := U_lt hx0
    rw [← u1] at this; omega
  rcases Nat.lt_or_eq_of_le hy with h2 | rfl
  · obtain ⟨n, e2, r2, u2⟩ := read_fin y h2
    exact ⟨_, by rw [dOp_mul, r1, r2]; rfl, by show Ieee.double.write (.number false _ _) ≤ _; rw [write_pos]; exact pos_INF _ _⟩
  · exact ⟨INF, by rw [dOp_mul, r1, read_inf]; show Option.map _ (if m = 0 then none else _) = _; rw [if_neg hm]; rfl, Nat.le_refl _⟩

end Go.Proofs.Fl
