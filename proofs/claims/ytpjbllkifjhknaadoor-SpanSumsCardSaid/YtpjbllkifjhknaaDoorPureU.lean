/- Span, plain: the document's Text is textS. -/
import Derived.Test.YtpjbllkifjhknaaDoorPureT
import Derived.Test.YtpjbllkifjhknaaDoorPrSoundingsref07Text
set_option linter.unusedVariables false
set_option linter.unusedSimpArgs false
namespace Go.Proofs.YtpjbllkifjhknaaDoor.Pr
open Go.RowKit Go.Proofs.YtpjbllkifjhknaaDoorW.PrintWords

/-! ### The document's Text -/
theorem digit_at : ∀ d : Nat, d < 10 → ((⟨#[48, 49, 50, 51, 52, 53, 54, 55, 56, 57]⟩ : ByteArray).extract d (d + 1)) = bs [UInt8.ofNat (48 + d)] := by
  intro d hd
  have h : d = 0 ∨ d = 1 ∨ d = 2 ∨ d = 3 ∨ d = 4 ∨ d = 5 ∨ d = 6 ∨ d = 7 ∨ d = 8 ∨ d = 9 := by omega
  rcases h with rfl | rfl | rfl | rfl | rfl | rfl | rfl | rfl | rfl | rfl <;> rfl
theorem digits_l0 : ∀ (k u : Nat) (acc : List UInt8), u < 9223372036854775808 → Lib.nDigits u ≤ k → acc.length ≤ 4000 - k → k ≤ 3000 → soundingsref07_digits.l0 k (u : Int) (bs acc) = some (bs (Lib.decDigits u ++ acc))
  | 0, u, acc, _, h, _, _ => by have := Lib.nDigits_pos u; omega
  | k + 1, u, acc, hb, h, ha, hk => by
    have t1 : Int.tmod (u : Int) 10 = ((u % 10 : Nat) : Int) := by rw [Int.tmod_eq_emod_of_nonneg (by omega)]; omega
    have t2 : Int.tdiv (u : Int) 10 = ((u / 10 : Nat) : Int) := by rw [Int.tdiv_eq_ediv_of_nonneg (by omega)]; omega
    have w1 : wrap64 (((u % 10 : Nat) : Int) + 1) = ((u % 10 + 1 : Nat) : Int) := by unfold wrap64; omega
    have w2 : wrap64 ((u / 10 : Nat) : Int) = ((u / 10 : Nat) : Int) := by unfold wrap64; omega
    have hd := digit_at (u % 10) (by omega)
    simp only [soundingsref07_digits.l0]
    rw [t1, t2, w1, w2, if_pos (by omega), if_pos (by omega), if_pos (by omega), Int.toNat_natCast, Int.toNat_natCast, hd, bs_size, bs_size, if_pos (by simp only [List.length_cons, List.length_nil]; omega), bs_app]
    by_cases h10 : u < 10
    · rw [if_pos (by omega), Lib.decDigits, dif_pos h10, Nat.mod_eq_of_lt h10]
    · rw [if_neg (by omega), digits_l0 k (u / 10) _ (by omega) (by rw [Lib.nDigits_big h10] at h; omega) (by simp only [List.length_append, List.length_cons, List.length_nil]; omega) (by omega)]
      conv => rhs; rw [Lib.decDigits, dif_neg h10]
      rw [List.append_assoc]
theorem digits_some (q : Int) (h0 : 0 ≤ q) (h1 : q ≤ 35184372088832) (k : Nat) (hk : 20 ≤ k) (hk2 : k ≤ 3000) : soundingsref07_digits.f k q = some (bs (Lib.itoa q)) := by
  obtain ⟨u, rfl⟩ : ∃ u : Nat, q = u := ⟨q.toNat, by omega⟩
  have h := digits_l0 k u [] (by omega) (by have := Lib.nDigits_le20 u (by omega); omega) (by simp) hk2
  rw [List.append_nil, ← Lib.itoa_nonneg] at h
  exact h
theorem rd_long (i : Nat) (h : i < 7) : rd [31536000000, 604800000, 86400000, 3600000, 60000, 1000, 1] (i : Int) = longOf i := by
  have hk' : i = 0 ∨ i = 1 ∨ i = 2 ∨ i = 3 ∨ i = 4 ∨ i = 5 ∨ i = 6 := by omega
  rcases hk' with rfl | rfl | rfl | rfl | rfl | rfl | rfl <;> rfl
theorem rd_name (i : Nat) (h : i < 7) : rdOf ByteArray.empty [(⟨#[121]⟩ : ByteArray), (⟨#[119]⟩ : ByteArray), (⟨#[100]⟩ : ByteArray), (⟨#[104]⟩ : ByteArray), (⟨#[109]⟩ : ByteArray), (⟨#[115]⟩ : ByteArray), (⟨#[109, 115]⟩ : ByteArray)] (i : Int) = bs (nameOf i) := by
  have hk' : i = 0 ∨ i = 1 ∨ i = 2 ∨ i = 3 ∨ i = 4 ∨ i = 5 ∨ i = 6 := by omega
  rcases hk' with rfl | rfl | rfl | rfl | rfl | rfl | rfl <;> rfl
theorem units_drop (i : Nat) (h : i < 7) : [0, 1, 2, 3, 4, 5, 6].drop i = i :: [0, 1, 2, 3, 4, 5, 6].drop (i + 1) := by
  have hk' : i = 0 ∨ i = 1 ∨ i = 2 ∨ i = 3 ∨ i = 4 ∨ i = 5 ∨ i = 6 := by omega
  rcases hk' with rfl | rfl | rfl | rfl | rfl | rfl | rfl <;> rfl
def fin0 (l : List UInt8) : ByteArray × Bool := (if l = [] then bs [48, 115] else bs l, true)
theorem bs_toList (l : List UInt8) : (bs l).toList = l := by rw [Lib.toList_data]; rfl
theorem size2 {a b : List UInt8} {x y : Nat} (ha : a.length ≤ x) (hb : b.length ≤ y) (h : x + y ≤ 9223372036854775807) : (bs a).size + (bs b).size ≤ 9223372036854775807 := by rw [bs_size, bs_size]; omega
theorem len2 {a b : List UInt8} {x y : Nat} (ha : a.length ≤ x) (hb : b.length ≤ y) : (a ++ b).length ≤ x + y := by rw [List.length_append]; omega
theorem len3 {a b c : List UInt8} {x : Nat} (ha : a.length ≤ x) (hb : b.length ≤ 21) (hc : c.length ≤ 2) : (a ++ b ++ c).length ≤ x + 30 := by rw [List.length_append, List.length_append]; omega
set_option maxHeartbeats 4000000 in
theorem rtext_l0 : ∀ (d i : Nat) (k : Nat) (out : List UInt8) (u : Int), i + d = 7 → d + 25 ≤ k → k ≤ 3000 → out.length ≤ i * 30 → 0 ≤ u → u ≤ 35184372088832 →
    soundingsref07_Text.l0 k (bs out) u (i : Int) = some (fin0 (out ++ textL ([0, 1, 2, 3, 4, 5, 6].drop i) u))
  | 0, i, k, out, u, hi, hk, hk2, ho, h0, h1 => by
    obtain ⟨k, rfl⟩ : ∃ m, k = m + 1 := ⟨k - 1, by omega⟩
    simp only [soundingsref07_Text.l0]
    rw [if_neg (by omega), bs_toList, List.drop_eq_nil_of_le (by simp; omega)]
    unfold fin0 textL
    rw [List.append_nil]
    by_cases h : out = []
    · rw [if_pos h, if_pos h]; rfl
    · rw [if_neg h, if_neg h]
  | d + 1, i, k, out, u, hi, hk, hk2, ho, h0, h1 => by
    obtain ⟨k, rfl⟩ : ∃ m, k = m + 1 := ⟨k - 1, by omega⟩
    have hi7 : i < 7 := by omega
    have hi7' : (i : Int) < 7 := by omega
    have hi0 : 0 ≤ (i : Int) := by omega
    have hk25 : d + 25 ≤ k := by omega
    have z2 : 20 ≤ k := by omega
    have hk30 : k ≤ 3000 := by omega
    have hid : i + 1 + d = 7 := by omega
    obtain ⟨c, t, e, hc, ht⟩ := name_cons i hi7
    have HNL : Aside0 ((nameOf i).length ≤ 2) := ⟨by rw [e, List.length_cons]; omega⟩
    clear e ht
    have ho180 : out.length ≤ 180 := by omega
    have ho3 : out.length ≤ (i + 1) * 30 := by omega
    have rn := rd_name i hi7
    have ud := units_drop i hi7
    obtain ⟨a1, a2, a3, a4, a5⟩ := div_parts u (longOf i) h0 (long_pos i)
    have hL := long_pos i
    obtain ⟨q, hq⟩ : ∃ q, u.tdiv (longOf i) = q := ⟨_, rfl⟩
    obtain ⟨m, hm⟩ : ∃ m, u.tmod (longOf i) = m := ⟨_, rfl⟩
    obtain ⟨s, hs⟩ : ∃ s, q * longOf i = s := ⟨_, rfl⟩
    rw [hq] at a1 a3 a4
    rw [hm] at a2 a3 a5
    rw [hs] at a3
    have hL0 : longOf i ≠ 0 := by omega
    have hw : wrap64 ((i : Int) + 1) = ((i + 1 : Nat) : Int) := by unfold wrap64; omega
    have w1 : wrap64 q = q := by unfold wrap64; omega
    have w2 : wrap64 s = s := by unfold wrap64; omega
    have w3 : wrap64 (u - s) = m := by unfold wrap64; omega
    have hm1 : m ≤ 35184372088832 := by omega
    have ih := fun (out' : List UInt8) (ho' : out'.length ≤ (i + 1) * 30) => rtext_l0 d (i + 1) k out' m hid hk25 hk30 ho' a2 hm1
    rw [soundingsref07_Text.l0, if_pos hi7', soundingsref07_Long.f, Option.bind_some, if_pos hi0, if_pos (show (i : Int) < (([31536000000, 604800000, 86400000, 3600000, 60000, 1000, 1] : List Int).length : Int) from hi7'), rd_long i hi7, if_neg hL0, Option.bind_some, if_pos (show (i : Int) < (([31536000000, 604800000, 86400000, 3600000, 60000, 1000, 1] : List Int).length : Int) from hi7'), rd_long i hi7, hq, w1, hs, w2, w3, hw, ud, textL, hq, hm]
    by_cases hq0 : q > 0
    · have z1 : q ≤ 35184372088832 := Int.le_trans a4 h1
      have H6 := Aside0.mk (Lib.itoa_length_le q (Int.le_trans (by decide) a1) (Int.le_trans z1 (by decide)))
      have hsz1 := size2 ho180 H6.out (by decide)
      have hsz2 := size2 (len2 ho180 H6.out) HNL.out (by decide)
      have ho2 : (out ++ Lib.itoa q ++ nameOf i).length ≤ (i + 1) * 30 := by rw [Nat.succ_mul]; exact len3 ho H6.out HNL.out
      rw [if_pos hq0, if_pos hq0, digits_some q a1 z1 k z2 hk30, Option.bind_some, if_pos hsz1, soundingsref07_Units.f, Option.bind_some, if_pos (show (i : Int) < (([(⟨#[121]⟩ : ByteArray), (⟨#[119]⟩ : ByteArray), (⟨#[100]⟩ : ByteArray), (⟨#[104]⟩ : ByteArray), (⟨#[109]⟩ : ByteArray), (⟨#[115]⟩ : ByteArray), (⟨#[109, 115]⟩ : ByteArray)] : List ByteArray).length : Int) from hi7'), rn, bs_app, if_pos hsz2, bs_app, ih _ ho2]
      simp only [List.append_assoc]
    · rw [if_neg hq0, if_neg hq0, ih _ ho3, List.nil_append]
theorem rtext_some (v : Int) : soundingsref07_Text.f 100 v = some (bs ((textS v).getD []), (textS v).isSome) := by
  unfold soundingsref07_Text.f
  by_cases h0 : v < 0
  · rw [if_pos h0]
    unfold textS
    rw [if_pos (.inl h0)]
    rfl
  · rw [if_neg h0]
    by_cases h1 : v > 35184372088832
    · rw [decide_eq_true h1]
      unfold textS
      rw [if_pos (.inr h1)]
      rfl
    · rw [decide_eq_false h1]
      simp only [soundingsref07_Text.j0]
      rw [if_neg (by simp)]
      have h := rtext_l0 7 0 99 [] v rfl (by omega) (by omega) (by simp) (by omega) (by omega)
      have e : (⟨#[]⟩ : ByteArray) = bs [] := rfl
      have e0 : ((0 : Nat) : Int) = 0 := rfl
      rw [e0] at h
      rw [e, h]
      unfold fin0
      by_cases hz : v = 0
      · subst hz; rfl
      · have hne : textL [0, 1, 2, 3, 4, 5, 6] v ≠ [] := fun h => by
          have h2 := textL_nil _ v (by decide) (by omega) h
          simp only [remL, longOf, List.getD_cons_succ, List.getD_cons_zero, Int.tmod_one] at h2
          omega
        rw [textS_pos v (by omega) (by omega)]
        simp only [List.drop_zero, List.nil_append]
        rw [if_neg hne]
        rfl
end Go.Proofs.YtpjbllkifjhknaaDoor.Pr
