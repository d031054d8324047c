/- Texts of this session, cut down to what one claim needs and joined: FfRight. -/
import Derived.Test.YtjleceekccehoaaGreatDoorQGJ7
set_option linter.unusedVariables false
set_option linter.unusedSimpArgs false
namespace Go.Proofs.YtjleceekccehoaaGreatDoor.Pr
open Go.RowKit Go.Proofs.YtjleceekccehoaaGreatDoor.Dec Go.Proofs.YtjleceekccehoaaGreatDoorW.PrintWords Go.Proofs.YtjleceekccehoaaGreatDoorW.PrintLast Go.Proofs.YtjleceekccehoaaGreatDoorW.PrintMore

theorem and_mask (k : Nat) (hk : k ≤ 60) : ∀ N : Nat, N < 18446744073709551616 → Go.bits .and .u64 (N : Int) (((2 ^ k : Nat) : Int) - 1) = ((N % 2 ^ k : Nat) : Int) := by
  intro N hN
  have hp := pow60 k hk
  have e : (((2 ^ k : Nat) : Int) - 1) = ((2 ^ k - 1 : Nat) : Int) := by omega
  rw [e]
  show IntKind.u64.wrap (((BitVec.ofInt 64 (N : Int)) &&& (BitVec.ofInt 64 ((2 ^ k - 1 : Nat) : Int))).toNat : Nat) = _
  have h1 : ((BitVec.ofInt 64 (N : Int)) &&& (BitVec.ofInt 64 ((2 ^ k - 1 : Nat) : Int))).toNat = N % 2 ^ k := by
    rw [BitVec.toNat_and, BitVec.ofInt_natCast, BitVec.ofInt_natCast, BitVec.toNat_ofNat, BitVec.toNat_ofNat, Nat.mod_eq_of_lt (by omega), Nat.mod_eq_of_lt (by omega), Nat.and_two_pow_sub_one_eq_mod]
  rw [h1, IntWalk.u64_in _ (by have := Nat.mod_le N (2 ^ k); omega)]
theorem ne0 (N K : Nat) (h : ¬ N < K) (hK : 1 ≤ K) : ((N : Int) / (K : Int) == 0) = false := by
  rw [beq_eq_false_iff_ne]
  have e : (N : Int) / (K : Int) = ((N / K : Nat) : Int) := by simp
  rw [e]
  have := Nat.div_pos (show K ≤ N by omega) (by omega)
  omega
theorem eq0 (N K : Nat) (h : N < K) : ((N : Int) / (K : Int) == 0) = true := by
  rw [beq_iff_eq]
  exact Int.ediv_eq_zero_of_lt (by omega) (by omega)
/-- What the digits read so far say: r of them, in all N; K is 2^k. -/
structure R1 (ds : List Int) (K r N : Nat) : Prop where
  lt : N < 10 * K
  zero : r = 0 → N = 0
  big : 1 ≤ r → 10 ^ (r - 1) ≤ N
  fst : r = 1 → ∀ x, ds[0]? = some x → N = (x - 48).toNat
theorem R1.step {ds : List Int} {K r N n : Nat} (h : R1 ds K r N) (hG : GoodD ds n) (hn : r < n) (hN : N < K) {x : Int} (hx : ds[r]? = some x) : R1 ds K (r + 1) (N * 10 + (x - 48).toNat) := by
  have hxd := hG.dig r x hn hx
  refine ⟨by omega, by omega, fun _ => ?_, fun h1 y hy => ?_⟩
  · rw [Nat.add_sub_cancel]
    rcases Nat.eq_zero_or_pos r with h0 | h0
    · subst h0
      have := hG.one (by omega) x hx
      simp
      omega
    · have h1 := h.big h0
      have e : 10 ^ r = 10 ^ (r - 1) * 10 := by rw [← Nat.pow_succ]; congr 1; omega
      rw [e]; omega
  · have h0 : r = 0 := by omega
    subst h0
    rw [hx] at hy
    injection hy with hy
    rw [h.zero rfl, hy]; omega
theorem R1.more {ds : List Int} {K r N : Nat} (h : R1 ds K r N) (h1 : 1 ≤ r) (hN : N < K) : R1 ds K (r + 1) (N * 10) := by
  refine ⟨by omega, by omega, fun _ => ?_, fun h2 => by omega⟩
  rw [Nat.add_sub_cancel]
  have h1 := h.big h1
  have e : 10 ^ r = 10 ^ (r - 1) * 10 := by rw [← Nat.pow_succ]; congr 1; omega
  rw [e]; omega
theorem R1.few {ds : List Int} {k K r N : Nat} (h : R1 ds K r N) (hk : k ≤ 60) (hK : 2 ^ k = K) (hN : N < K) : r ≤ 19 := by
  rcases Nat.lt_or_ge 19 r with h1 | h1
  · have h2 := h.big (by omega)
    have h3 := (pow60 k hk).2
    have h4 : 10 ^ 19 ≤ 10 ^ (r - 1) := Nat.pow_le_pow_right (by decide) (by omega)
    have h5 : (10 : Nat) ^ 19 = 10000000000000000000 := by decide
    omega
  · exact h1
theorem R1.pos {ds : List Int} {K r N : Nat} (h : R1 ds K r N) (hN : ¬ N < K) (hK : 1 ≤ K) : 1 ≤ r := by
  rcases Nat.eq_zero_or_pos r with h0 | h0
  · have := h.zero h0; omega
  · exact h0
/-- The row while digits are put down: below w they are new, from r on as they were. -/
structure Rg (ds es : List Int) (K r0 r w N : Nat) : Prop where
  len : es.length = 800
  high : ∀ i, r ≤ i → es[i]? = ds[i]?
  dig : ∀ i x, i < w → es[i]? = some x → 48 ≤ x ∧ x ≤ 57
  lt : N < 10 * K
  zero : w = 0 → K ≤ N ∧ (r0 = 1 → ∀ x, ds[0]? = some x → N = (x - 48).toNat)
  one : 0 < w → ∀ y, es[0]? = some y → y ≠ 48 ∧ (r0 = 1 → ∀ x, ds[0]? = some x → y < x)
theorem Rg.start {ds : List Int} {K r N n : Nat} (h : R1 ds K r N) (hG : GoodD ds n) (hN : ¬ N < K) : Rg ds ds K r r 0 N := ⟨hG.len, fun _ _ => rfl, fun i x h => by omega, h.lt, fun _ => ⟨by omega, fun h1 => h.fst h1⟩, fun h => by omega⟩
theorem div_le9 {N K : Nat} (h : N < 10 * K) : N / K ≤ 9 := by
  have hK : 0 < K := by omega
  have : N / K < 10 := by rw [Nat.div_lt_iff_lt_mul hK]; omega
  omega
theorem Rg.put {ds es : List Int} {K r0 r w N n : Nat} (h : Rg ds es K r0 r w N) (hw : w < r) (hK : 2 ≤ K) (hG : GoodD ds n) (hn : 1 ≤ n) (M : Nat) (hM : M < 10 * K) (r' : Nat) (hr : r ≤ r') : Rg ds (es.set w ((N / K : Nat) + 48)) K r0 r' (w + 1) M := by
  have h9 := div_le9 h.lt
  have hl := h.len
  have hDlt : 1 ≤ N → N / K < N := fun h1 => Nat.div_lt_self h1 hK
  have hDpos : K ≤ N → 0 < N / K := fun h1 => Nat.div_pos h1 (by omega)
  generalize N / K = D at *
  refine ⟨by simp [hl], fun i hi => ?_, fun i x hi hx => ?_, hM, fun h0 => by omega, fun _ y hy => ?_⟩
  · rw [List.getElem?_set_ne (by omega)]; exact h.high i (by omega)
  · by_cases he : i = w
    · subst he
      rw [List.getElem?_set_self'] at hx
      cases h3 : es[i]? with
      | none => rw [h3] at hx; cases hx
      | some z => rw [h3] at hx; simp at hx; omega
    · rw [List.getElem?_set_ne (by omega)] at hx
      exact h.dig i x (by omega) hx
  · rcases Nat.eq_zero_or_pos w with h0 | h0
    · subst h0
      rw [List.getElem?_set_self (by omega)] at hy
      injection hy with hy
      have hz := h.zero rfl
      have h1 := hDpos hz.1
      have h5 := hDlt (by omega)
      refine ⟨by omega, fun h2 x hx => ?_⟩
      have h3 := hz.2 h2 x hx
      have h4 := hG.dig 0 x (by omega) hx
      omega
    · rw [List.getElem?_set_ne (by omega)] at hy
      exact h.one h0 y hy
/-- The same where no digit is left to be read. -/
structure Rh (ds es : List Int) (K r0 w N : Nat) : Prop where
  len : es.length = 800
  dig : ∀ i x, i < w → es[i]? = some x → 48 ≤ x ∧ x ≤ 57
  lt : N < 10 * K
  zero : w = 0 → K ≤ N ∧ (r0 = 1 → ∀ x, ds[0]? = some x → N = (x - 48).toNat)
  one : 0 < w → ∀ y, es[0]? = some y → y ≠ 48 ∧ (r0 = 1 → ∀ x, ds[0]? = some x → y < x)
theorem Rg.rh {ds es : List Int} {K r0 r w N : Nat} (h : Rg ds es K r0 r w N) : Rh ds es K r0 w N := ⟨h.len, h.dig, h.lt, h.zero, h.one⟩
theorem Rh.put {ds es : List Int} {K r0 w N n : Nat} (h : Rh ds es K r0 w N) (hK : 2 ≤ K) (hG : GoodD ds n) (hn : 1 ≤ n) : Rh ds (es.set w ((N / K : Nat) + 48)) K r0 (w + 1) (N % K * 10) := by
  have hm := Nat.mod_lt N (show 0 < K by omega)
  have hx : Rg ds es K r0 (max 801 (w + 1)) w N := by
    refine ⟨h.len, fun i hi => ?_, h.dig, h.lt, h.zero, h.one⟩
    have h1 := h.len
    have h2 := hG.len
    rw [List.getElem?_eq_none (by omega), List.getElem?_eq_none (by omega)]
  exact (hx.put (by omega) hK hG hn (N % K * 10) (by omega) (max 801 (w + 1)) (Nat.le_refl _)).rh
theorem Rh.skip {ds es : List Int} {K r0 w N : Nat} (h : Rh ds es K r0 w N) (hw : 1 ≤ w) (hK : 2 ≤ K) : Rh ds es K r0 w (N % K * 10) := by
  have hm := Nat.mod_lt N (show 0 < K by omega)
  exact ⟨h.len, h.dig, by omega, fun h0 => by omega, h.one⟩
/-- How often what is left may be cut yet. -/
def Cut (k q N : Nat) : Prop := N = 0 ∨ ∃ j, j ≤ k ∧ 2 ^ j ∣ N ∧ q = k + 1 - j
theorem Cut.start (k N : Nat) : Cut k (k + 1) N := Or.inr ⟨0, by omega, ⟨N, by simp⟩, by omega⟩
theorem Cut.step {k q N : Nat} (h : Cut k q N) (hN : 1 ≤ N) : ∃ q', q' < q ∧ Cut k q' (N % 2 ^ k * 10) := by
  rcases h with h | ⟨j, hj, hd, hq⟩
  · omega
  · rcases Nat.lt_or_ge j k with h1 | h1
    · exact ⟨k + 1 - (j + 1), by omega, Or.inr ⟨j + 1, by omega, rs_dvd k j N h1 hd, rfl⟩⟩
    · have : j = k := by omega
      subst this
      exact ⟨0, by omega, Or.inl (rs_end j N hd)⟩
/-- What a shift to the right leaves. -/
structure RightR (w0 w' : World) (g : Nat) (ds : List Int) (dp : Int) (ng : Bool) (es : List Int) (m : Nat) (e : Nat) (tr' : Bool) : Prop where
  dec : DecB w0 w' g es m (dp - e) ng tr'
  good : GoodD es m
  pos : 1 ≤ m
  few : e ≤ 19
  fst : e = 0 → ∀ x y, ds[0]? = some x → es[0]? = some y → y < x
end Go.Proofs.YtjleceekccehoaaGreatDoor.Pr
