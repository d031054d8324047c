/- Floats that are not below nought: what sums, differences, products and quotients of them come to (bounds by binades). Plain: no program. -/
import Derived.Test.YtlnhecplmppldaaFK
set_option linter.unusedVariables false
set_option linter.unusedSimpArgs false
namespace Go.Proofs.Fl
open Go

/-- The rung of infinity. -/
def INF : Nat := 2047 * 2 ^ 52
/-- A rung's magnitude, in units of the least number. -/
def U (x : Nat) : Nat := if x < 2 ^ 52 then x else (2 ^ 52 + x % 2 ^ 52) * 2 ^ (x / 2 ^ 52 - 1)

theorem lp : Ieee.double.leastPlace = -1074 := by decide
theorem fb52 : Ieee.double.fractionBits = 52 := rfl

/-- What a word below infinity, its sign bit nought, stands for. -/
theorem read_fin (x : Nat) (h : x < INF) : ∃ m e : Nat, Ieee.double.read x = .number false m (-1074 + e) ∧ m * 2 ^ e = U x := by
  unfold INF at h
  have h63 : x % 2 ^ 63 = x := Nat.mod_eq_of_lt (by omega)
  have hs : (x / 2 ^ 63 % 2 == 1) = false := by
    rw [Nat.div_eq_of_lt (by omega)]; rfl
  unfold Ieee.Format.read
  simp only [sw, bn, ir, h63, hs, lp]
  by_cases h1 : x < 2 ^ 52
  · rw [if_pos h1]
    exact ⟨x, 0, by simp, by unfold U; rw [if_pos h1]; omega⟩
  · rw [if_neg h1, if_pos h]
    exact ⟨2 ^ 52 + x % 2 ^ 52, x / 2 ^ 52 - 1, rfl, by unfold U; rw [if_neg h1]⟩
theorem read_neg (x : Nat) (h : x < INF) : ∃ m e : Nat, Ieee.double.read (2 ^ 63 + x) = .number true m (-1074 + e) ∧ m * 2 ^ e = U x := by
  unfold INF at h
  have h63 : (2 ^ 63 + x) % 2 ^ 63 = x := by omega
  have hs : ((2 ^ 63 + x) / 2 ^ 63 % 2 == 1) = true := by
    rw [show (2 ^ 63 + x) / 2 ^ 63 = 1 from by omega]; rfl
  unfold Ieee.Format.read
  simp only [sw, bn, ir, h63, hs, lp]
  by_cases h1 : x < 2 ^ 52
  · rw [if_pos h1]
    exact ⟨x, 0, by simp, by unfold U; rw [if_pos h1]; omega⟩
  · rw [if_neg h1, if_pos h]
    exact ⟨2 ^ 52 + x % 2 ^ 52, x / 2 ^ 52 - 1, rfl, by unfold U; rw [if_neg h1]⟩
theorem read_inf : Ieee.double.read INF = .infinity false := by decide

/-! ### The magnitudes go up with the rungs -/
theorem U_bounds (x : Nat) (h : 2 ^ 52 ≤ x) : 2 ^ (52 + (x / 2 ^ 52 - 1)) ≤ U x ∧ U x < 2 ^ (53 + (x / 2 ^ 52 - 1)) := by
  unfold U
  rw [if_neg (by omega), Nat.pow_add, Nat.pow_add]
  have hp : 0 < 2 ^ (x / 2 ^ 52 - 1) := Nat.two_pow_pos _
  exact ⟨Nat.mul_le_mul_right _ (by omega), Nat.mul_lt_mul_of_pos_right (by omega) hp⟩
theorem U_lt {x y : Nat} (h : x < y) : U x < U y := by
  by_cases hy : y < 2 ^ 52
  · unfold U; rw [if_pos (by omega), if_pos hy]; exact h
  · have hb := U_bounds y (by omega)
    by_cases hx : x < 2 ^ 52
    · have : U x = x := by unfold U; rw [if_pos hx]
      rw [this]
      have h1 : 2 ^ 52 ≤ 2 ^ (52 + (y / 2 ^ 52 - 1)) := Nat.pow_le_pow_right (by omega) (by omega)
      omega
    · have hbx := U_bounds x (by omega)
      by_cases he : x / 2 ^ 52 = y / 2 ^ 52
      · unfold U
        rw [if_neg hx, if_neg hy, he]
        exact Nat.mul_lt_mul_of_pos_right (by omega) (Nat.two_pow_pos _)
      · have h2 : 2 ^ (53 + (x / 2 ^ 52 - 1)) ≤ 2 ^ (52 + (y / 2 ^ 52 - 1)) := Nat.pow_le_pow_right (by omega) (by omega)
        omega
theorem U_le {x y : Nat} (h : x ≤ y) : U x ≤ U y := by
  rcases Nat.lt_or_eq_of_le h with h | rfl
  · exact Nat.le_of_lt (U_lt h)
  · exact Nat.le_refl _
theorem U_lt_iff {x y : Nat} : U x < U y ↔ x < y := ⟨fun h => by rcases Nat.lt_or_ge x y with h' | h'; exact h'; have := U_le h'; omega, U_lt⟩
theorem U_zero : U 0 = 0 := by decide

/-! ### To round -/
theorem shl (n k : Nat) : n <<< k = n * 2 ^ k := Nat.shiftLeft_eq n k
theorem cut_le (neg : Bool) (n drop c : Nat) (h : n ≤ c * 2 ^ drop) : Ieee.Toward.even.cut neg n drop ≤ c := by
  unfold Ieee.Toward.cut
  simp only [Nat.one_shiftLeft]
  by_cases hd : drop ≤ n.log2 + 2
  · rw [Nat.min_eq_left hd]
    have hp : 0 < 2 ^ drop := Nat.two_pow_pos _
    have hq : n / 2 ^ drop ≤ c := by
      rw [Nat.div_le_iff_le_mul_add_pred hp]; rw [Nat.mul_comm] at h; omega
    rcases Nat.lt_or_eq_of_le hq with hlt | heq
    · have : ∀ b : Bool, b.toNat ≤ 1 := fun b => by cases b <;> decide
      have := this (decide (2 ^ drop < 2 * (n % 2 ^ drop)) || (2 ^ drop == 2 * (n % 2 ^ drop) && n / 2 ^ drop % 2 == 1))
      omega
    · have hm := Nat.div_add_mod n (2 ^ drop)
      rw [heq] at hm
      have hr : n % 2 ^ drop = 0 := by rw [Nat.mul_comm] at h; omega
      rw [hr, heq]
      have e1 : decide (2 ^ drop < 2 * 0) = false := by simp
      have e2 : (2 ^ drop == 2 * 0) = false := by simp
      rw [e1, e2]
      simp
  · rw [Nat.min_eq_right (by omega)]
    have hn : n < 2 ^ (n.log2 + 1) := Nat.lt_log2_self
    have h2 : 2 ^ (n.log2 + 2) = 2 * 2 ^ (n.log2 + 1) := by rw [Nat.pow_succ]; omega
    have hq : n / 2 ^ (n.log2 + 2) = 0 := Nat.div_eq_of_lt (by omega)
    have hr : n % 2 ^ (n.log2 + 2) = n := Nat.mod_eq_of_lt (by omega)
    rw [hq, hr]
    have e1 : decide (2 ^ (n.log2 + 2) < 2 * n) = false := by simp; omega
    have e2 : (2 ^ (n.log2 + 2) == 2 * n) = false := by simp; omega
    rw [e1, e2]
    simp
theorem cut_ge (neg : Bool) (n drop c : Nat) (h : c * 2 ^ drop ≤ n) : c ≤ Ieee.Toward.even.cut neg n drop := by
  unfold Ieee.Toward.cut
  simp only [Nat.one_shiftLeft]
  refine Nat.le_trans ?_ (Nat.le_add_right _ _)
  by_cases hd : drop ≤ n.log2 + 2
  · rw [Nat.min_eq_left hd]
    exact (Nat.le_div_iff_mul_le (Nat.two_pow_pos _)).2 h
  · have hn : n < 2 ^ (n.log2 + 1) := Nat.lt_log2_self
    have h2 : 2 ^ (n.log2 + 1) ≤ 2 ^ drop := Nat.pow_le_pow_right (by omega) (by omega)
    rcases Nat.eq_zero_or_pos c with rfl | hc
    · exact Nat.zero_le _
    · have : 2 ^ drop ≤ c * 2 ^ drop := Nat.le_mul_of_pos_left _ hc
      omega

/-- The rung that a number is rounded to. -/
def rungOf (T : Nat) (place : Int) : Nat :=
  let last := max (place + T.log2 - 52) (-1074)
  min ((last + 1074).toNat * 2 ^ 52 + Ieee.Toward.even.cut false (T <<< (place - last).toNat) (last - place).toNat) INF
theorem nearest_word (neg : Bool) (T : Nat) (place : Int) : Ieee.double.nearest neg T place = Ieee.double.word neg (if T = 0 then 0 else rungOf T place) := by
  unfold Ieee.Format.nearest rungOf INF
  by_cases h : T = 0
  · rw [if_pos h, if_pos h]
  · rw [if_neg h, if_neg h]
    simp only [lp, fb52, bn, ir]
    congr 2
theorem word_false (r : Nat) : Ieee.double.word false r = r := rfl
theorem word_true (r : Nat) : Ieee.double.word true r = 2 ^ 63 + r := by unfold Ieee.Format.word; rw [sw]; rfl

/-- Where a number's greatest digit stands, its rung lies. -/
theorem rung_in (T : Nat) (place : Int) (k : Nat) (hT : T ≠ 0) (hk : place + T.log2 + 1022 = k) : (k + 1) * 2 ^ 52 ≤ rungOf T place ∨ rungOf T place = INF := by
  have hlo := Nat.log2_self_le hT
  have hlast : max (place + T.log2 - 52) (-1074) = place + T.log2 - 52 := by omega
  unfold rungOf
  simp only [hlast]
  have e1 : (place + T.log2 - 52 + 1074).toNat = k := by omega
  rw [e1]
  have hc : 2 ^ 52 ≤ Ieee.Toward.even.cut false (T <<< (place - (place + T.log2 - 52)).toNat) (place + T.log2 - 52 - place).toNat := by
    apply cut_ge
    rw [shl, ← Nat.pow_add]
    by_cases h : T.log2 ≤ 52
    · rw [show (place + (T.log2 : Int) - 52 - place).toNat = 0 from by omega, show (place - (place + (T.log2 : Int) - 52)).toNat = 52 - T.log2 from by omega]
      calc 2 ^ (52 + 0) = 2 ^ T.log2 * 2 ^ (52 - T.log2) := by rw [← Nat.pow_add]; congr 1; omega
        _ ≤ T * 2 ^ (52 - T.log2) := Nat.mul_le_mul_right _ hlo
    · rw [show (place + (T.log2 : Int) - 52 - place).toNat = T.log2 - 52 from by omega, show (place - (place + (T.log2 : Int) - 52)).toNat = 0 from by omega]
      rw [show 52 + (T.log2 - 52) = T.log2 from by omega]
      omega
  rcases Nat.le_total (k * 2 ^ 52 + Ieee.Toward.even.cut false (T <<< (place - (place + T.log2 - 52)).toNat) (place + T.log2 - 52 - place).toNat) INF with h | h
  · left; rw [Nat.min_eq_left h, Nat.succ_mul]; omega
  · right; rw [Nat.min_eq_right h]
theorem arr (a c k : Nat) (h1 : a ≤ k) (hc : c ≤ 2 ^ 53) : a * 2 ^ 52 + c ≤ (k + 2) * 2 ^ 52 := by omega
theorem arr2 (k y : Nat) (h : k < y / 2 ^ 52 - 1) : k * 2 ^ 52 + 2 ^ 53 ≤ y := by omega
theorem rung_le (T : Nat) (place : Int) (k : Nat) (hk : place + T.log2 + 1022 ≤ k) : rungOf T place ≤ (k + 2) * 2 ^ 52 := by
  have hhi : T < 2 ^ (T.log2 + 1) := Nat.lt_log2_self
  unfold rungOf
  refine Nat.le_trans (Nat.min_le_left _ _) ?_
  generalize hl : max (place + (T.log2 : Int) - 52) (-1074) = last
  have h1 : (last + 1074).toNat ≤ k := by omega
  have hc : Ieee.Toward.even.cut false (T <<< (place - last).toNat) (last - place).toNat ≤ 2 ^ 53 := by
    apply cut_le
    rw [shl, ← Nat.pow_add]
    by_cases h : last ≤ place
    · rw [show (last - place).toNat = 0 from by omega]
      calc T * 2 ^ (place - last).toNat ≤ 2 ^ (T.log2 + 1) * 2 ^ (place - last).toNat := Nat.mul_le_mul_right _ (by omega)
        _ = 2 ^ (T.log2 + 1 + (place - last).toNat) := by rw [← Nat.pow_add]
        _ ≤ 2 ^ (53 + 0) := Nat.pow_le_pow_right (by omega) (by omega)
    · rw [show (place - last).toNat = 0 from by omega]
      calc T * 2 ^ 0 ≤ 2 ^ (T.log2 + 1) := by omega
        _ ≤ 2 ^ (53 + (last - place).toNat) := Nat.pow_le_pow_right (by omega) (by omega)
  exact arr _ _ k h1 hc
theorem rung_INF (T : Nat) (place : Int) : rungOf T place ≤ INF := Nat.min_le_right _ _

/-- A number that is not above a rung's is not rounded above that rung. -/
theorem rung_mono (T b y : Nat) (hT : T ≠ 0) (hy : y < INF) (h : T * 2 ^ b ≤ U y) : rungOf T (-1074 + b) ≤ y := by
  have hlo := Nat.log2_self_le hT
  have hhi : T < 2 ^ (T.log2 + 1) := Nat.lt_log2_self
  have hlb : 2 ^ (T.log2 + b) ≤ T * 2 ^ b := by rw [Nat.pow_add]; exact Nat.mul_le_mul_right _ hlo
  have hub : T * 2 ^ b < 2 ^ (T.log2 + b + 1) := by
    rw [show T.log2 + b + 1 = (T.log2 + 1) + b from by omega, Nat.pow_add]; exact Nat.mul_lt_mul_of_pos_right hhi (Nat.two_pow_pos _)
  unfold rungOf
  refine Nat.le_trans (Nat.min_le_left _ _) ?_
  obtain ⟨k, hk⟩ : ∃ k : Nat, (k : Int) = max ((-1074 + (b : Int)) + T.log2 - 52) (-1074) + 1074 := ⟨(max ((-1074 + (b : Int)) + T.log2 - 52) (-1074) + 1074).toNat, by omega⟩
  have e0 : max ((-1074 + (b : Int)) + T.log2 - 52) (-1074) = -1074 + (k : Int) := by omega
  simp only [e0]
  rw [show (-1074 + (k : Int) + 1074).toNat = k from by omega]
  have key : ∃ c, k * 2 ^ 52 + c ≤ y ∧ T * 2 ^ b ≤ c * 2 ^ k := by
    by_cases hs : y < 2 ^ 52
    · have hU : U y = y := by unfold U; rw [if_pos hs]
      rw [hU] at h
      have hk0 : k = 0 := by
        rcases Nat.eq_zero_or_pos k with h0 | hpos
        · exact h0
        · have : 2 ^ 52 ≤ 2 ^ (T.log2 + b) := Nat.pow_le_pow_right (by omega) (by omega)
          omega
      exact ⟨y, by rw [hk0]; omega, by rw [hk0]; omega⟩
    · have hUb := U_bounds y (by omega)
      have hkE : k ≤ y / 2 ^ 52 - 1 := by
        rcases Nat.eq_zero_or_pos k with h0 | hpos
        · omega
        · have hlt : 2 ^ (T.log2 + b) < 2 ^ (53 + (y / 2 ^ 52 - 1)) := by omega
          have := (Nat.pow_lt_pow_iff_right (by omega : 1 < 2)).1 hlt
          omega
      rcases Nat.lt_or_eq_of_le hkE with hlt | heq
      · refine ⟨2 ^ 53, ?_, ?_⟩
        · exact arr2 k y hlt
        · rw [← Nat.pow_add]
          have : 2 ^ (T.log2 + b + 1) ≤ 2 ^ (53 + k) := Nat.pow_le_pow_right (by omega) (by omega)
          omega
      · refine ⟨2 ^ 52 + y % 2 ^ 52, ?_, ?_⟩
        · have h2 := Nat.div_add_mod y (2 ^ 52)
          have h3 : k * 2 ^ 52 + 2 ^ 52 = 2 ^ 52 * (y / 2 ^ 52) := by
            rw [show y / 2 ^ 52 = k + 1 from by omega, Nat.mul_comm (2 ^ 52), Nat.succ_mul]
          omega
        · unfold U at h
          rw [if_neg hs, ← heq] at h
          exact h
  obtain ⟨c, hc1, hc2⟩ := key
  have hcut : Ieee.Toward.even.cut false (T <<< (-1074 + (b : Int) - (-1074 + (k : Int))).toNat) (-1074 + (k : Int) - (-1074 + (b : Int))).toNat ≤ c := by
    apply cut_le
    rw [shl]
    by_cases hbk : k ≤ b
    · rw [show (-1074 + (k : Int) - (-1074 + (b : Int))).toNat = 0 from by omega, show (-1074 + (b : Int) - (-1074 + (k : Int))).toNat = b - k from by omega]
      have h1 : T * 2 ^ (b - k) * 2 ^ k ≤ c * 2 ^ k := by
        rw [Nat.mul_assoc, ← Nat.pow_add, Nat.sub_add_cancel hbk]; exact hc2
      have := Nat.le_of_mul_le_mul_right h1 (Nat.two_pow_pos k)
      omega
    · rw [show (-1074 + (k : Int) - (-1074 + (b : Int))).toNat = k - b from by omega, show (-1074 + (b : Int) - (-1074 + (k : Int))).toNat = 0 from by omega]
      have h1 : T * 2 ^ b ≤ c * 2 ^ (k - b) * 2 ^ b := by
        rw [Nat.mul_assoc, ← Nat.pow_add, Nat.sub_add_cancel (by omega)]; exact hc2
      have := Nat.le_of_mul_le_mul_right h1 (Nat.two_pow_pos b)
      omega
  omega

/-! ### Sums -/
def VV (s : Bool) (m e : Nat) : Int := if s = true then -((m * 2 ^ e : Nat) : Int) else ((m * 2 ^ e : Nat) : Int)
theorem signed_shift (s : Bool) (m e b : Nat) (h : b ≤ e) : Ieee.signed s m (e - b) * ((2 ^ b : Nat) : Int) = VV s m e := by
  have e1 : ((m <<< (e - b) : Nat) : Int) * ((2 ^ b : Nat) : Int) = ((m * 2 ^ e : Nat) : Int) := by
    rw [← Int.natCast_mul, shl, Nat.mul_assoc, ← Nat.pow_add, Nat.sub_add_cancel h]
  unfold Ieee.signed VV
  cases s
  · simp only [Bool.false_eq_true, if_false]; exact e1
  · simp only [if_true]; rw [Int.neg_mul, e1]
theorem sum_gen (s t : Bool) (m n e1 e2 : Nat) : ∃ (tot : Int) (b : Nat), tot * ((2 ^ b : Nat) : Int) = VV s m e1 + VV t n e2 ∧
    (Ieee.Datum.number s m (-1074 + e1)).sum (.number t n (-1074 + e2)) = some (.number (if tot = 0 then s && t else decide (tot < 0)) tot.natAbs (-1074 + b)) := by
  obtain ⟨b, hb⟩ : ∃ b, b = min e1 e2 := ⟨_, rfl⟩
  refine ⟨Ieee.signed s m (e1 - b) + Ieee.signed t n (e2 - b), b, ?_, ?_⟩
  · rw [Int.add_mul, signed_shift s m e1 b (by omega), signed_shift t n e2 b (by omega)]
  · unfold Ieee.Datum.sum
    have h0 : min (-1074 + (e1 : Int)) (-1074 + (e2 : Int)) = -1074 + (b : Int) := by omega
    simp only [h0]
    rw [show (-1074 + (e1 : Int) - (-1074 + (b : Int))).toNat = e1 - b from by omega, show (-1074 + (e2 : Int) - (-1074 + (b : Int))).toNat = e2 - b from by omega]
theorem write_pos (T : Nat) (place : Int) : Ieee.double.write (.number false T place) = if T = 0 then 0 else rungOf T place := by
  show Ieee.double.nearest false T place = _
  rw [nearest_word, word_false]
theorem write_negn (T : Nat) (place : Int) : Ieee.double.write (.number true T place) = 2 ^ 63 + (if T = 0 then 0 else rungOf T place) := by
  show Ieee.double.nearest true T place = _
  rw [nearest_word, word_true]
theorem pos_INF (T : Nat) (place : Int) : (if T = 0 then 0 else rungOf T place) ≤ INF := by
  split
  · exact Nat.zero_le _
  · exact rung_INF _ _
theorem dOp_add (x y : Nat) : dOp .add x y = ((Ieee.double.read x).sum (Ieee.double.read y)).map Ieee.double.write := rfl
theorem dOp_sub (x y : Nat) : dOp .sub x y = ((Ieee.double.read x).sum (Ieee.double.read y).opposite).map Ieee.double.write := rfl
theorem dOp_mul (x y : Nat) : dOp .mul x y = ((Ieee.double.read x).product (Ieee.double.read y)).map Ieee.double.write := rfl
theorem dOp_quo (x y : Nat) : dOp .quo x y = ((Ieee.double.read x).quotient 54 (Ieee.double.read y)).map Ieee.double.write := rfl

/-- A sum whose total isn't below nought. -/
theorem tot_nonneg {tot : Int} {b : Nat} {v : Int} (h : tot * ((2 ^ b : Nat) : Int) = v) (hv : 0 ≤ v) : 0 ≤ tot := by
  have hp : (0 : Int) < ((2 ^ b : Nat) : Int) := by exact_mod_cast Nat.two_pow_pos b
  rcases (by omega : tot < 0 ∨ 0 ≤ tot) with hlt | hge
  · have := Int.mul_neg_of_neg_of_pos hlt hp; omega
  · exact hge
theorem add_fin (x y : Nat) (hx : x < INF) (hy : y < INF) : ∃ T b : Nat, dOp .add x y = some (if T = 0 then 0 else rungOf T (-1074 + b)) ∧ T * 2 ^ b = U x + U y := by
  obtain ⟨m, e1, r1, u1⟩ := read_fin x hx
  obtain ⟨n, e2, r2, u2⟩ := read_fin y hy
  obtain ⟨tot, b, ht, hs⟩ := sum_gen false false m n e1 e2
  have hv : VV false m e1 + VV false n e2 = ((U x + U y : Nat) : Int) := by simp [VV, u1, u2]
  rw [hv] at ht
  have h0 := tot_nonneg ht (Int.natCast_nonneg _)
  refine ⟨tot.natAbs, b, ?_, ?_⟩
  · rw [dOp_add, r1, r2, hs]
    have : (if tot = 0 then false && false else decide (tot < 0)) = false := by split <;> simp; omega
    rw [this]
    show some _ = _
    rw [write_pos]
  · have : ((tot.natAbs * 2 ^ b : Nat) : Int) = ((U x + U y : Nat) : Int) := by rw [Int.natCast_mul, Int.natAbs_of_nonneg h0, ht]
    exact_mod_cast this
theorem add_nn (x y : Nat) (hx : x ≤ INF) (hy : y ≤ INF) : ∃ r, dOp .add x y = some r ∧ r ≤ INF := by
  rcases Nat.lt_or_eq_of_le hx with h1 | rfl
  · rcases Nat.lt_or_eq_of_le hy with h2 | rfl
    · obtain ⟨T, b, h, _⟩ := add_fin x y h1 h2
      exact ⟨_, h, pos_INF _ _⟩
    · obtain ⟨m, e, r, _⟩ := read_fin x h1
      exact ⟨INF, by rw [dOp_add, r, read_inf]; rfl, Nat.le_refl _⟩
  · rcases Nat.lt_or_eq_of_le hy with h2 | rfl
    · obtain ⟨m, e, r, _⟩ := read_fin y h2
      exact ⟨INF, by rw [dOp_add, r, read_inf]; rfl, Nat.le_refl _⟩
    · exact ⟨INF, by rw [dOp_add, read_inf]; rfl, Nat.le_refl _⟩
/-- A difference: not below nought, or its magnitude is not above what was taken away. -/
theorem sub_fin (x y : Nat) (hx : x < INF) (hy : y < INF) : ∃ r, dOp .sub x y = some r ∧ (y ≤ x ∧ r ≤ INF ∨ x < y ∧ ∃ q, q ≤ y ∧ r = 2 ^ 63 + q) := by
  obtain ⟨m, e1, r1, u1⟩ := read_fin x hx
  obtain ⟨n, e2, r2, u2⟩ := read_fin y hy
  obtain ⟨tot, b, ht, hs⟩ := sum_gen false true m n e1 e2
  have hv : VV false m e1 + VV true n e2 = (U x : Int) - (U y : Int) := by simp [VV, u1, u2]; omega
  rw [hv] at ht
  have hop : (Ieee.Datum.number false n (-1074 + (e2 : Int))).opposite = .number true n (-1074 + e2) := rfl
  rcases Nat.lt_or_ge x y with hlt | hge
  · have hU := U_lt hlt
    have hneg : tot < 0 := by
      rcases (by omega : tot < 0 ∨ 0 ≤ tot) with h | h
      · exact h
      · have := Int.mul_nonneg h (Int.natCast_nonneg (2 ^ b)); omega
    have hT : tot.natAbs ≠ 0 := by omega
    refine ⟨_, by rw [dOp_sub, r1, r2, hop, hs, if_neg (by omega), decide_eq_true hneg]; rfl, .inr ⟨hlt, rungOf tot.natAbs (-1074 + b), ?_, by rw [write_negn, if_neg hT]⟩⟩
    apply rung_mono _ _ _ hT hy
    have e : ((tot.natAbs * 2 ^ b : Nat) : Int) = (U y : Int) - (U x : Int) := by
      rw [Int.natCast_mul, show (tot.natAbs : Int) = -tot from by omega, Int.neg_mul, ht]; omega
    omega
  · have hU := U_le hge
    have h0 := tot_nonneg ht (by omega)
    refine ⟨_, by rw [dOp_sub, r1, r2, hop, hs]; rfl, .inl ⟨hge, ?_⟩⟩
    have : (if tot = 0 then false && true else decide (tot < 0)) = false := by split <;> simp; omega
    rw [this, write_pos]
    exact pos_INF _ _
/-- What was taken away, given back at least. -/
theorem back_fin (q z : Nat) (hq : q < INF) (hz : z < INF) (h : q ≤ z) : ∃ r, dOp .add (2 ^ 63 + q) z = some r ∧ r ≤ INF := by
  obtain ⟨m, e1, r1, u1⟩ := read_neg q hq
  obtain ⟨n, e2, r2, u2⟩ := read_fin z hz
  obtain ⟨tot, b, ht, hs⟩ := sum_gen true false m n e1 e2
  have hv : VV true m e1 + VV false n e2 = (U z : Int) - (U q : Int) := by simp [VV, u1, u2]; omega
  rw [hv] at ht
  have hU := U_le h
  have h0 := tot_nonneg ht (by omega)
  refine ⟨_, by rw [dOp_add, r1, r2, hs]; rfl, ?_⟩
  have : (if tot = 0 then true && false else decide (tot < 0)) = false := by split <;> simp; omega
  rw [this, write_pos]
  exact pos_INF _ _

/-! ### The order -/
theorem order_fin (x y : Nat) (hx : x < INF) (hy : y < INF) : Ieee.double.order x y = some (compare x y) := by
  obtain ⟨m, e1, r1, u1⟩ := read_fin x hx
  obtain ⟨n, e2, r2, u2⟩ := read_fin y hy
  unfold Ieee.Format.order
  rw [r1, r2]
  unfold Ieee.Datum.order
  obtain ⟨b, hb⟩ : ∃ b, b = min e1 e2 := ⟨_, rfl⟩
  have h0 : min (-1074 + (e1 : Int)) (-1074 + (e2 : Int)) = -1074 + (b : Int) := by omega
  simp only [h0]
  rw [show (-1074 + (e1 : Int) - (-1074 + (b : Int))).toNat = e1 - b from by omega, show (-1074 + (e2 : Int) - (-1074 + (b : Int))).toNat = e2 - b from by omega]
  have k1 := signed_shift false m e1 b (by omega)
  have k2 := signed_shift false n e2 b (by omega)
  have v1 : VV false m e1 = (U x : Int) := by simp [VV, u1]
  have v2 : VV false n e2 = (U y : Int) := by simp [VV, u2]
  rw [v1] at k1
  rw [v2] at k2
  have hp : (0 : Int) < ((2 ^ b : Nat) : Int) := by exact_mod_cast Nat.two_pow_pos b
  generalize Ieee.signed false m (e1 - b) = A at k1
  generalize Ieee.signed false n (e2 - b) = B at k2
  congr 1
  rcases Nat.lt_trichotomy x y with h | h | h
  · have hU := U_lt h
    have : A < B := by
      rcases (by omega : A < B ∨ B ≤ A) with h' | h'
      · exact h'
      · have := Int.mul_le_mul_of_nonneg_right h' (Int.le_of_lt hp); omega
    rw [Int.compare_eq_lt.2 this, Nat.compare_eq_lt.2 h]
  · subst h
    have : A = B := by
      have : A * ((2 ^ b : Nat) : Int) = B * ((2 ^ b : Nat) : Int) := by rw [k1, k2]
      exact Int.eq_of_mul_eq_mul_right (by omega) this
    rw [this, Int.compare_eq_eq.2 rfl, Nat.compare_eq_eq.2 rfl]
  · have hU := U_lt h
    have : B < A := by
      rcases (by omega : B < A ∨ A ≤ B) with h' | h'
      · exact h'
      · have := Int.mul_le_mul_of_nonneg_right h' (Int.le_of_lt hp); omega
    rw [Int.compare_eq_gt.2 this, Nat.compare_eq_gt.2 h]

end Go.Proofs.Fl
