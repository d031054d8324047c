import Derived.Test.YtlnhecplmppldaaGrowRate
import Derived.Test.YtlnhecplmppldaaGrowInc
import Derived.Test.YtlnhecplmppldaaGrowDelta
import Derived.Test.YtlnhecplmppldaaPrSoundingsref04IsNone
import Derived.Test.YtlnhecplmppldaaPureR
set_option linter.unusedVariables false
set_option linter.unusedSimpArgs false
namespace Go.Proofs.Ytlnhecplmppldaa.Pr
open Go.RowKit Go.Proofs.Fl Go.Proofs.YtlnhecplmppldaaW.PrintWords Go.Proofs.YtlnhecplmppldaaW.PrintLast Go.Proofs.YtlnhecplmppldaaW.PrintMore
attribute [local go_sem] frombits_run bits_run

theorem rdR (l : List S29) (i : Nat) (h : i < l.length) : rd_T29 l (i : Int) = l[i] := by simp [rd_T29, h]
theorem rmay_l0R (l : List S29) (hn : l.length ≤ 1000) : ∀ (d i k : Nat), i + d + 1 = l.length → d < k → ∃ b, rate_may.l0 k l ((l.length - 1 : Nat) : Int) (i : Int) = some b ∧ (b = true → ∀ (j : Nat) (h : j + 1 < l.length), i ≤ j → (l[j]).f0 < (l[j + 1]).f0) := by
  intro d
  induction d with
  | zero =>
    intro i k hi hk
    obtain ⟨k, rfl⟩ : ∃ m, k = m + 1 := ⟨k - 1, by omega⟩
    exact ⟨true, by simp only [rate_may.l0]; rw [if_neg (by omega)], fun _ j h hj => by omega⟩
  | succ d ih =>
    intro i k hi hk
    obtain ⟨k, rfl⟩ : ∃ m, k = m + 1 := ⟨k - 1, by omega⟩
    have hw : wrap64 ((i : Int) + 1) = ((i + 1 : Nat) : Int) := by unfold wrap64; omega
    obtain ⟨b, hb, hb2⟩ := ih (i + 1) k (by omega) (by omega)
    simp only [rate_may.l0, hw]
    rw [if_pos (by omega), if_pos (by omega), if_pos (by omega), if_pos (by omega), if_pos (by omega), rdR l i (by omega), rdR l (i + 1) (by omega), hb]
    by_cases c : (l[i]).f0 ≥ (l[i + 1]).f0
    · rw [if_pos c]
      exact ⟨false, rfl, fun h => by cases h⟩
    · rw [if_neg c]
      refine ⟨b, rfl, fun h j hj hij => ?_⟩
      rcases Nat.eq_or_lt_of_le hij with rfl | hlt
      · omega
      · exact hb2 h j hj hlt
theorem up_lt (l : List S29) (h : ∀ (j : Nat) (h : j + 1 < l.length), 0 ≤ j → (l[j]).f0 < (l[j + 1]).f0) : ∀ (m : Nat) (hm : m + 1 < l.length), (l[0]'(by omega)).f0 < (l[m + 1]).f0
  | 0, hm => h 0 hm (Nat.le_refl _)
  | m + 1, hm => Int.lt_trans (up_lt l h m (by omega)) (h (m + 1) hm (Nat.zero_le _))
theorem rmay_R (l : List S29) (s t : Int) (hn : l.length ≤ 1000) : ∃ b, rate_may.f 1002 l s t = some b ∧ (b = true → 2 ≤ l.length ∧ -4503599627370496 ≤ s ∧ t ≤ 4503599627370496 ∧ s < (rd_T29 l 0).f0 ∧ (rd_T29 l ((l.length : Int) - 1)).f0 ≤ t ∧ (rd_T29 l 0).f0 < (rd_T29 l ((l.length : Int) - 1)).f0) := by
  have j0t : rate_may.j0 1002 l true = some false := by simp [rate_may.j0]
  unfold rate_may.f
  by_cases c1 : (l.length : Int) < 2
  · rw [if_pos c1, j0t]; exact ⟨false, rfl, fun h => by cases h⟩
  rw [if_neg c1]
  by_cases c2 : s < -4503599627370496
  · rw [if_pos c2, j0t]; exact ⟨false, rfl, fun h => by cases h⟩
  rw [if_neg c2]
  by_cases c3 : s > 4503599627370496
  · rw [if_pos c3, j0t]; exact ⟨false, rfl, fun h => by cases h⟩
  rw [if_neg c3]
  by_cases c4 : t < -4503599627370496
  · rw [if_pos c4, j0t]; exact ⟨false, rfl, fun h => by cases h⟩
  rw [if_neg c4]
  by_cases c5 : t > 4503599627370496
  · rw [if_pos c5, j0t]; exact ⟨false, rfl, fun h => by cases h⟩
  rw [if_neg c5, if_pos (by omega)]
  by_cases c6 : (rd_T29 l 0).f0 ≤ s
  · rw [if_pos c6, j0t]; exact ⟨false, rfl, fun h => by cases h⟩
  have hw : wrap64 ((l.length : Int) - 1) = (l.length : Int) - 1 := by unfold wrap64; omega
  rw [if_neg c6, hw, if_pos (by omega), if_pos (by omega)]
  by_cases c7 : (rd_T29 l ((l.length : Int) - 1)).f0 > t
  · rw [decide_eq_true c7, j0t]; exact ⟨false, rfl, fun h => by cases h⟩
  rw [decide_eq_false c7]
  obtain ⟨b, hb, hb2⟩ := rmay_l0R l hn (l.length - 1) 0 1001 (by omega) (by omega)
  refine ⟨b, ?_, fun h => ⟨by omega, by omega, by omega, by omega, by omega, ?_⟩⟩
  · simp only [rate_may.j0, Bool.false_eq_true, if_false]
    rw [if_pos (by omega), List.length_drop]
    exact hb
  · have := up_lt l (hb2 h) (l.length - 2) (by omega)
    rw [show (l.length : Int) - 1 = ((l.length - 2 + 1 : Nat) : Int) from by omega, rdR l (l.length - 2 + 1) (by omega), show (0 : Int) = ((0 : Nat) : Int) from rfl, rdR l 0 (by omega)]
    exact this

theorem isInf_any (x : Nat) (w : World) : Calls Try.prog 22 #[.float .f64 x, .int .i64 1] w fun e w' => ∃ b : Bool, e = .returned (.bool b) ∧ w = w' := by
  go_enter Try.func22, Try.ntmps22
  go_wp2
  go_ret
  exact ⟨_, rfl, rfl⟩
theorem float_any (v : Int) (w : World) : Calls Try.prog 21 #[.int .u64 v] w fun e w' => e = .returned (.float .f64 v.toNat) ∧ w = w' := by
  go_enter Try.func21, Try.ntmps21
  go_wp2
  go_ret
  exact ⟨rfl, rfl⟩

theorem norm_nn {v r : Nat} (h : nf v = some r) (hr : r ≤ INF) : v = r ∧ normI v = (r : Int) := by
  unfold nf at h
  split at h
  · cases h
  · obtain rfl := Option.some.inj h
    refine ⟨rfl, ?_⟩
    unfold normI
    rw [if_neg (by rw [Int.toNat_natCast, not_nan hr]; simp)]
theorem ge_zero {r : Nat} (hr : r ≤ INF) : (FloatKind.f64.format.order r 0 == some .gt || FloatKind.f64.format.order r 0 == some .eq) = true := by
  show (Ieee.double.order r 0 == some .gt || Ieee.double.order r 0 == some .eq) = true
  rcases Nat.lt_or_eq_of_le hr with h | rfl
  · rw [order_fin r 0 h (by unfold INF; decide)]
    rcases Nat.eq_zero_or_pos r with rfl | hp
    · rfl
    · rw [Nat.compare_eq_gt.2 hp]; rfl
  · decide

/-- What rate.Grow does, of points that the law lets in. -/
def GrowOk (r : Nat) (ok : Bool) : Prop := ok = true → r ≤ INF

end Go.Proofs.Ytlnhecplmppldaa.Pr
