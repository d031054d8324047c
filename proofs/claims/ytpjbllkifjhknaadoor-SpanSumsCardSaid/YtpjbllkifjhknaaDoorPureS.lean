/- Span, plain: what the laws' walks want to know. -/
import Derived.Test.YtpjbllkifjhknaaDoorPureT
set_option linter.unusedVariables false
set_option linter.unusedSimpArgs false
namespace Go.Proofs.YtpjbllkifjhknaaDoor.Pr
open Go.RowKit Go.Proofs.YtpjbllkifjhknaaDoorW.PrintWords

theorem itoa_one (d : Nat) (h : d < 10) : Lib.itoa (d : Int) = [UInt8.ofNat (48 + d)] := by rw [Lib.itoa_nonneg, Lib.decDigits_one h]
theorem text_awake : textS 5400000 = some [49, 104, 51, 48, 109] := by
  rw [textS_pos _ (by decide) (by decide)]
  have e1 : Lib.itoa 1 = [49] := itoa_one 1 (by decide)
  have e2 : Lib.itoa 30 = [51, 48] := by
    rw [show (30 : Int) = ((30 : Nat) : Int) from rfl, Lib.itoa_nonneg, Lib.decDigits_two (by decide) (by decide)]
    rfl
  have t1 : Int.tdiv 5400000 31536000000 = 0 := by decide
  have t2 : Int.tmod 5400000 31536000000 = 5400000 := by decide
  have t3 : Int.tdiv 5400000 604800000 = 0 := by decide
  have t4 : Int.tmod 5400000 604800000 = 5400000 := by decide
  have t5 : Int.tdiv 5400000 86400000 = 0 := by decide
  have t6 : Int.tmod 5400000 86400000 = 5400000 := by decide
  have t7 : Int.tdiv 5400000 3600000 = 1 := by decide
  have t8 : Int.tmod 5400000 3600000 = 1800000 := by decide
  have t9 : Int.tdiv 1800000 60000 = 30 := by decide
  have t10 : Int.tmod 1800000 60000 = 0 := by decide
  simp only [textL, longOf, nameOf, List.getD_cons_succ, List.getD_cons_zero, t1, t2, t3, t4, t5, t6, t7, t8, t9, t10, Int.zero_tdiv, Int.zero_tmod, e1, e2]
  rfl
theorem textS_bounds (v : Int) (t : List UInt8) (h : textS v = some t) : 0 ≤ v ∧ v ≤ 35184372088832 := by
  unfold textS at h
  split at h
  · cases h
  · omega
theorem parseS_len (l : List UInt8) (v : Int) (h : parseS l = some v) : l.length ≤ 200 := by
  unfold parseS at h
  split at h
  · cases h
  · omega
theorem textL_app : ∀ (us vs : List Nat) (u : Int), textL (us ++ vs) u = textL us u ++ textL vs (remL us u)
  | [], vs, u => rfl
  | k :: us, vs, u => by
    rw [List.cons_append, textL, textL, remL, textL_app us vs, List.append_assoc]
theorem over_iff' (M sum n L : Int) (hL : 1 ≤ L) (h0 : 0 ≤ sum) (h1 : sum ≤ M) : n > (M - sum).tdiv L ↔ sum + n * L > M := by
  rw [Int.tdiv_eq_ediv_of_nonneg (by omega)]
  have := Int.le_ediv_iff_mul_le (a := n) (b := M - sum) (c := L) (by omega)
  omega
theorem sums_plain (a u : Int) (hu : u = a * 3600000) (h0 : 0 < a) (h1 : a ≤ 65535) : ∃ m, textS u = some m ∧ parseS m = some u ∧ parseS (m ++ [49, 109]) = some (u + 60000) ∧ m.length ≤ 200 := by
  have hp := parse_text u (by omega) (by omega)
  have ht := textS_pos u (by omega) (by omega)
  rw [ht] at hp
  change parseS (textL [0, 1, 2, 3, 4, 5, 6] u) = some u at hp
  refine ⟨_, ht, hp, ?_, parseS_len _ _ hp⟩
  have hrem : remL [0, 1, 2, 3] u = 0 := by
    have e1 : u.tmod 31536000000 = u % 31536000000 := Int.tmod_eq_emod_of_nonneg (by omega)
    have e2 : (u % 31536000000).tmod 604800000 = u % 31536000000 % 604800000 := Int.tmod_eq_emod_of_nonneg (by omega)
    have e3 : (u % 31536000000 % 604800000).tmod 86400000 = u % 31536000000 % 604800000 % 86400000 := Int.tmod_eq_emod_of_nonneg (by omega)
    have e4 : (u % 31536000000 % 604800000 % 86400000).tmod 3600000 = u % 31536000000 % 604800000 % 86400000 % 3600000 := Int.tmod_eq_emod_of_nonneg (by omega)
    simp only [remL, longOf, List.getD_cons_succ, List.getD_cons_zero, e1, e2, e3, e4]
    omega
  have hsplit : textL [0, 1, 2, 3, 4, 5, 6] u = textL [0, 1, 2, 3] u := by
    have := textL_app [0, 1, 2, 3] [4, 5, 6] u
    rw [hrem] at this
    have hn : textL [4, 5, 6] 0 = [] := by simp [textL]
    rw [hn, List.append_nil] at this
    exact this
  rw [hsplit] at hp ⊢
  have hlen := textL_len [0, 1, 2, 3] u (by decide) (by omega) (by unfold MaxSpan; omega)
  simp only [List.length_cons, List.length_nil] at hlen
  obtain ⟨n', _, hn', h3⟩ := parse_textL [0, 1, 2, 3] u 0 0 4 [49, 109] ((textL [0, 1, 2, 3] u ++ [49, 109]).length + 1) (by decide) (by decide) (by decide) (.inr ⟨1, [109], by decide, rfl⟩) (by omega) (by decide) (by unfold MaxSpan; omega) (by omega)
  have e0 : ((0 : Nat) : Int) = 0 := rfl
  rw [e0, hrem] at h3
  unfold parseS
  rw [if_neg (by
    rintro (h | h)
    · simp at h
    · simp only [List.length_append, List.length_cons, List.length_nil] at h; omega), h3]
  have en : numS MaxSpan [49, 109] = (1, [109], true) := rfl
  have em : namedS [109] = (4, []) := rfl
  have e6 : longOf (4 : Int).toNat = 60000 := rfl
  rw [parse_step _ _ _ _ (by simp) (by simp only [List.length_append, List.length_cons, List.length_nil]; omega), en]
  dsimp only
  rw [em]
  dsimp only
  rw [e6, if_neg (by
    rintro (h | h | h)
    · cases h
    · omega
    · rw [over_iff' MaxSpan _ 1 60000 (by omega) (by omega) (by unfold MaxSpan; omega)] at h
      unfold MaxSpan at h
      omega), parseR, if_pos rfl]
  congr 1
  omega
end Go.Proofs.YtpjbllkifjhknaaDoor.Pr
