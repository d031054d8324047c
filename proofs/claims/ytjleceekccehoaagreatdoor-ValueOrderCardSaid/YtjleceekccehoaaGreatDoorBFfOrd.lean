/- Texts of this session, cut down to what one claim needs and joined: FfOrd. -/
import Derived.Test.YtjleceekccehoaaGreatDoorBFfCmp
set_option linter.unusedVariables false
set_option linter.unusedSimpArgs false
namespace Go.Proofs.YtjleceekccehoaaGreatDoor.Pr
open Go.RowKit Go.Proofs.Fl

/-- A rank (no number, below all, a number, above all), and a number's place in the order. -/
def keyD : Ieee.Datum → Int × Int
  | .nan .. => (-2, 0)
  | .infinity s => (if s = true then -1 else 1, 0)
  | .number s m i => (0, Ieee.signed s m (i - Ieee.double.leastPlace).toNat)
def keyF (x : Nat) : Int × Int := keyD (Ieee.double.read x)
def lexC (a b : Int × Int) : Int := if a.1 < b.1 then -1 else if b.1 < a.1 then 1 else if a.2 < b.2 then -1 else if b.2 < a.2 then 1 else 0
def okD : Ieee.Datum → Prop
  | .number _ _ i => Ieee.double.leastPlace ≤ i
  | _ => True
theorem ok_read (x : Nat) : okD (Ieee.double.read x) := by
  unfold Ieee.Format.read
  dsimp only
  split
  · exact Int.le_refl _
  · split
    · show _ ≤ _; omega
    · split <;> exact trivial
theorem signed_add (s : Bool) (m a c : Nat) : Ieee.signed s m (a + c) = Ieee.signed s m a * (2 ^ c : Nat) := by
  unfold Ieee.signed
  simp only [Nat.shiftLeft_eq, Nat.pow_add]
  cases s
  · simp [Int.mul_assoc]
  · simp [Int.mul_assoc, Int.neg_mul]
theorem scale {s t : Bool} {m n : Nat} {i j L : Int} (hi : L ≤ i) (hj : L ≤ j) :
    ∃ c : Nat, 0 < c ∧ Ieee.signed s m (i - L).toNat = Ieee.signed s m (i - min i j).toNat * c ∧ Ieee.signed t n (j - L).toNat = Ieee.signed t n (j - min i j).toNat * c := by
  refine ⟨2 ^ (min i j - L).toNat, Nat.pow_pos (by decide), ?_, ?_⟩
  · rw [← signed_add]; congr 1; omega
  · rw [← signed_add]; congr 1; omega
theorem mul_lt_iff {a b : Int} {c : Nat} (hc : 0 < c) : a * c < b * c ↔ a < b := by
  have h : (0 : Int) < c := by omega
  exact ⟨fun h2 => Int.lt_of_mul_lt_mul_right h2 (Int.le_of_lt h), fun h2 => Int.mul_lt_mul_of_pos_right h2 h⟩
theorem order_lex (d e : Ieee.Datum) (hd : okD d) (he : okD e) (nd : d.isNaN = false) (ne : e.isNaN = false) :
    ((d.order e == some .lt) = true ↔ lexC (keyD d) (keyD e) = -1) ∧ ((d.order e == some .gt) = true ↔ lexC (keyD d) (keyD e) = 1) := by
  cases d with
  | nan s t => simp [Ieee.Datum.isNaN] at nd
  | infinity s =>
    cases e with
    | nan s t => simp [Ieee.Datum.isNaN] at ne
    | infinity t => cases s <;> cases t <;> decide
    | number t n j => cases s <;> simp [Ieee.Datum.order, keyD, lexC]
  | number s m i =>
    cases e with
    | nan s t => simp [Ieee.Datum.isNaN] at ne
    | infinity t => cases t <;> simp [Ieee.Datum.order, keyD, lexC]
    | number t n j =>
      obtain ⟨c, hc, e1, e2⟩ := scale (s := s) (t := t) (m := m) (n := n) (L := Ieee.double.leastPlace) hd he
      have k1 := @mul_lt_iff (Ieee.signed s m (i - min i j).toNat) (Ieee.signed t n (j - min i j).toNat) c hc
      have k2 := @mul_lt_iff (Ieee.signed t n (j - min i j).toNat) (Ieee.signed s m (i - min i j).toNat) c hc
      simp only [Ieee.Datum.order, keyD, lexC, e1, e2, k1, k2]
      simp only [Int.lt_irrefl, if_false, beq_iff_eq, Option.some.injEq]
      generalize Ieee.signed s m (i - min i j).toNat = A
      generalize Ieee.signed t n (j - min i j).toNat = B
      rw [Int.compare_eq_lt, Int.compare_eq_gt]
      constructor
      · constructor
        · intro h; rw [if_pos h]
        · intro h
          by_cases h1 : A < B
          · exact h1
          · rw [if_neg h1] at h; split at h <;> cases h
      · constructor
        · intro h; rw [if_neg (by omega), if_pos h]
        · intro h
          by_cases h1 : A < B
          · rw [if_pos h1] at h; cases h
          · rw [if_neg h1] at h
            by_cases h2 : B < A
            · exact h2
            · rw [if_neg h2] at h; cases h
theorem key_nan (x : Nat) : isN x = true → keyF x = (-2, 0) := by
  unfold isN dRead keyF
  cases Ieee.double.read x <;> simp [Ieee.Datum.isNaN, keyD]
theorem key_num (x : Nat) : isN x = false → -1 ≤ (keyF x).1 := by
  unfold isN dRead keyF
  cases h : Ieee.double.read x with
  | nan s t => simp [Ieee.Datum.isNaN]
  | infinity s => cases s <;> simp [keyD]
  | number s m i => simp [keyD]
theorem lex_cases (a b : Int × Int) : lexC a b = -1 ∨ lexC a b = 1 ∨ lexC a b = 0 := by
  unfold lexC; split; exact .inl rfl; split; exact .inr (.inl rfl); split; exact .inl rfl; split; exact .inr (.inl rfl); exact .inr (.inr rfl)
theorem cmpF_lex (x y : Nat) : cmpF x y = lexC (keyF x) (keyF y) := by
  unfold cmpF
  by_cases hx : isN x = true
  · rw [if_pos hx, key_nan x hx]
    by_cases hy : isN y = true
    · rw [if_pos hy, key_nan y hy]; rfl
    · rw [if_neg hy]
      have := key_num y (by simpa using hy)
      unfold lexC; rw [if_pos (by dsimp only; omega)]
  · rw [if_neg hx]
    by_cases hy : isN y = true
    · rw [if_pos hy, key_nan y hy]
      have := key_num x (by simpa using hx)
      unfold lexC; rw [if_neg (by dsimp only; omega), if_pos (by dsimp only; omega)]
    · rw [if_neg hy]
      obtain ⟨h1, h2⟩ := order_lex (Ieee.double.read x) (Ieee.double.read y) (ok_read x) (ok_read y) (by simpa [isN, dRead] using hx) (by simpa [isN, dRead] using hy)
      change ((Ieee.double.order x y == some .lt) = true ↔ lexC (keyF x) (keyF y) = -1) at h1
      change ((Ieee.double.order x y == some .gt) = true ↔ lexC (keyF x) (keyF y) = 1) at h2
      by_cases c1 : (Ieee.double.order x y == some .lt) = true
      · rw [if_pos c1, h1.1 c1]
      · rw [if_neg c1]
        by_cases c2 : (Ieee.double.order x y == some .gt) = true
        · rw [if_pos c2, h2.1 c2]
        · rw [if_neg c2]
          rcases lex_cases (keyF x) (keyF y) with h | h | h
          · exact absurd (h1.2 h) c1
          · exact absurd (h2.2 h) c2
          · exact h.symm
theorem lex_anti (a b : Int × Int) : lexC a b = -lexC b a := by unfold lexC; repeat' split <;> omega
theorem lex_trans (a b c : Int × Int) : (0 ≤ lexC a b → 0 ≤ lexC b c → 0 ≤ lexC a c) ∧ (lexC a b ≤ 0 → lexC b c ≤ 0 → lexC a c ≤ 0) := by
  obtain ⟨a1, a2⟩ := a
  obtain ⟨b1, b2⟩ := b
  obtain ⟨c1, c2⟩ := c
  have key : ∀ p q : Int × Int, (0 ≤ lexC p q ↔ q.1 < p.1 ∨ p.1 = q.1 ∧ q.2 ≤ p.2) ∧ (lexC p q ≤ 0 ↔ p.1 < q.1 ∨ p.1 = q.1 ∧ p.2 ≤ q.2) := by
    intro p q
    unfold lexC
    repeat' split
    all_goals omega
  rw [(key _ _).1, (key _ _).1, (key _ _).1, (key _ _).2, (key _ _).2, (key _ _).2]
  dsimp only
  omega
theorem cmp_anti (x y : Nat) : cmpF x y = -cmpF y x := by rw [cmpF_lex, cmpF_lex]; exact lex_anti _ _
theorem cmp_trans (x y z : Nat) : (0 ≤ cmpF x y → 0 ≤ cmpF y z → 0 ≤ cmpF x z) ∧ (cmpF x y ≤ 0 → cmpF y z ≤ 0 → cmpF x z ≤ 0) := by rw [cmpF_lex, cmpF_lex, cmpF_lex]; exact lex_trans _ _ _
theorem cmp_self (x : Nat) : cmpF x x = 0 := by have := cmp_anti x x; omega
theorem norm_nan (v : Int) (h0 : 0 ≤ v) (h1 : v ≤ 18446744073709551615) : isN (normI v).toNat = isN v.toNat := by
  unfold normI
  split
  · rename_i h; rw [h.1]; decide
  · rfl
theorem cmp_same (a b : Int) (a0 : 0 ≤ a) (a1 : a ≤ 18446744073709551615) (b0 : 0 ≤ b) (b1 : b ≤ 18446744073709551615) (h : normI a = normI b) : cmpF a.toNat b.toNat = 0 := by
  have e : isN a.toNat = isN b.toNat := by rw [← norm_nan a a0 a1, ← norm_nan b b0 b1, h]
  by_cases hn : isN a.toNat = true
  · unfold cmpF; rw [if_pos hn, if_pos (e ▸ hn)]
  · have hn2 : ¬ isN b.toNat = true := e ▸ hn
    unfold normI at h
    rw [if_neg (fun k => hn k.1), if_neg (fun k => hn2 k.1)] at h
    rw [h]; exact cmp_self _
theorem norm_idem (v : Int) (h0 : 0 ≤ v) (h1 : v ≤ 18446744073709551615) : normI (normI v) = normI v := by
  by_cases h : isN v.toNat = true ∧ v ≠ 9218868437227405314
  · have e : normI v = 9221120237041090561 := by unfold normI; rw [if_pos h]
    rw [e]; unfold normI; split <;> rfl
  · have e : normI v = v := by unfold normI; rw [if_neg h]
    rw [e]; exact e
end Go.Proofs.YtjleceekccehoaaGreatDoor.Pr
