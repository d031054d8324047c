/- Texts of this session, cut down to what one claim needs and joined: LexK. -/
import Derived.Test.YtjleceekccehoaaGreatDoorVGJ20
import Derived.Test.YtjleceekccehoaaGreatDoorVPrSoundingsref08Number
set_option linter.unusedVariables false
set_option linter.unusedSimpArgs false
namespace Go.Proofs.YtjleceekccehoaaGreatDoor.Pr
open Go.RowKit Go.Proofs.YtjleceekccehoaaGreatDoorW.PrintWords

def kindV (z : Nat) : Nat := if isLet z = true then 97 else if isDig z = true then 48 else if isBlk z = true then 32 else z
theorem kind_f (z : Nat) (hz : z < 256) (k : Nat) : soundingsref08_kind.f (k + 2) (z : Int) = some ((kindV z : Nat) : Int) := by
 induction k with
 | zero =>
  have h : ((List.range 256).all fun z => decide (soundingsref08_kind.f 2 (z : Int) = some ((kindV z : Nat) : Int))) = true := by decide +kernel
  exact of_decide_eq_true (List.all_eq_true.1 h z (List.mem_range.2 hz))
 | succ k ih => exact soundingsref08_kind.mono _ _ _ ih
def dp (z : Nat) : Bool := isDig z || z == 46
theorem kind48 (z : Nat) : kindV z = 48 ↔ isDig z = true := by
 unfold kindV
 constructor
 ·intro h
  split at h
  ·omega
  ·split at h
   ·assumption
   ·split at h
    ·omega
    ·subst h; rfl
 ·intro h
  have : isLet z = false := by
   have h1 : 48 ≤ z ∧ z ≤ 57 := by simpa [isDig] using h
   rw [isLet_iff]; exact decide_eq_false (by omega)
  rw [this, h]; rfl
theorem plain_l0 (l : List UInt8) (hl : l.length ≤ 1000000) : ∀ (r : List UInt8) (j k : Nat), At l j r → r.length + 4 ≤ k → soundingsref08_plain.l0 k (bs l) (j : Int) = some (r.all fun c => dp c.toNat) := by
 intro r
 induction r with
 | nil =>
  intro j k h hk
  obtain ⟨k, rfl⟩ : ∃ m, k = m + 1 := ⟨k - 1, by omega⟩
  rw [soundingsref08_plain.l0, bs_size, if_neg (by have := h.nil; omega)]
  rfl
 | cons c r ih =>
  intro j k h hk
  simp only [List.length_cons] at hk
  obtain ⟨k, rfl⟩ : ∃ m, k = m + 1 + 2 := ⟨k - 3, by omega⟩
  have hlt := h.lt
  have hw : wrap64 ((j : Int) + 1) = ((j + 1 : Nat) : Int) := by unfold wrap64; omega
  have hc := c.toNat_lt
  rw [show k + 1 + 2 = (k + 2) + 1 from rfl, soundingsref08_plain.l0, bs_size, if_pos (by omega), if_pos (by omega), h.byte, kind_f _ hc, Option.bind_some, hw, List.all_cons]
  by_cases h48 : kindV c.toNat = 48
  ·rw [if_pos (by rw [h48]; rfl), ih (j + 1) (k + 2) h.next (by omega)]
   have := (kind48 c.toNat).1 h48
   unfold dp
   rw [this]; rfl
  ·rw [if_neg (by omega)]
   have hd : isDig c.toNat = false := Bool.eq_false_iff.2 fun h' => h48 ((kind48 _).2 h')
   by_cases h46 : c.toNat = 46
   ·rw [if_pos (by omega), ih (j + 1) (k + 2) h.next (by omega)]
    unfold dp
    rw [h46]; rfl
   ·rw [if_neg (by omega)]
    unfold dp
    rw [hd, beq_eq_false_iff_ne.2 h46]; rfl
theorem plain_f (u : List UInt8) (hu : u.length ≤ 1000000) (k : Nat) (hk : u.length + 4 ≤ k) : soundingsref08_plain.f k (bs u) = some (u.all fun c => dp c.toNat) :=
 plain_l0 u hu u 0 k ⟨Nat.zero_le _, rfl⟩ hk
/-- The two variables behind a prefix. -/
def stOf (u : List UInt8) : Bool × Nat := u.foldl (fun s c => (plS s.1 s.2, c.toNat)) (true, 0)
theorem stOf_snoc (u : List UInt8) (y : UInt8) : stOf (u ++ [y]) = (plS (stOf u).1 (stOf u).2, y.toNat) := by
 unfold stOf
 rw [List.foldl_append]; rfl
theorem stOf_all : ∀ (n : Nat) (u : List UInt8) (y : UInt8), u.length ≤ n → (∀ c ∈ u, c.toNat ≠ 0) → (stOf (u ++ [y])).1 = u.all fun c => dp c.toNat := by
 intro n
 induction n with
 | zero =>
  intro u y hn _
  have : u = [] := List.length_eq_zero_iff.1 (by omega)
  subst this; rfl
 | succ n ih =>
  intro u y hn h0
  rcases List.eq_nil_or_concat u with rfl | ⟨v, x, rfl⟩
  ·rfl
  ·rw [List.concat_eq_append] at hn h0 ⊢
   rw [stOf_snoc, stOf_snoc]
   have hx : x.toNat ≠ 0 := h0 x (by simp)
   show plS (plS (stOf v).1 (stOf v).2) x.toNat = _
   have h1 := ih v x (by simp at hn; omega) (fun c hc => h0 c (by simp [hc]))
   rw [stOf_snoc] at h1
   simp only at h1
   unfold plS at h1 ⊢
   rw [if_neg hx, h1, List.all_append]
   unfold dp
   simp
theorem okS_sign {pl : Bool} {was z : Nat} (h1 : isLet z = false) (h2 : isDig z = false) (h3 : z ≠ 46) : okS pl was z = (isSg z && pl && isE was) := by
 unfold okS
 rw [h1, h2, beq_eq_false_iff_ne.2 h3]
 rfl
theorem ok_ne0 {pl : Bool} {was z : Nat} (h : okS pl was z = true) : z ≠ 0 := by
 rintro rfl
 revert h
 unfold okS
 simp [isLet, isDig, isSg]
set_option maxHeartbeats 1000000 in
theorem number_l0 (l : List UInt8) (hl : l.length ≤ 1000000) (i : Nat) (s : List UInt8) (hs : At l i s) : ∀ (r u : List UInt8) (k : Nat), s = u ++ r → (∀ c ∈ u, c.toNat ≠ 0) → 2 * r.length + l.length + 10 ≤ k → soundingsref08_number.l0 k (bs l) (i : Int) ((i + u.length : Nat) : Int) = some ((i + u.length + runS (stOf u).1 (stOf u).2 r : Nat) : Int) := by
 intro r
 induction r with
 | nil =>
  intro u k hsu h0 hk
  obtain ⟨k, rfl⟩ : ∃ m, k = m + 1 := ⟨k - 1, by omega⟩
  have hlen := hs.len
  rw [hsu, List.append_nil] at hlen
  rw [soundingsref08_number.l0, bs_size, if_neg (by omega)]
  rfl
 | cons c r ih =>
  intro u k hsu h0 hk
  simp only [List.length_cons] at hk
  obtain ⟨k, rfl⟩ : ∃ m, k = m + 4 := ⟨k - 4, by omega⟩
  have hj : At l (i + u.length) (c :: r) := ⟨by have := hs.len; rw [hsu] at this; simp at this; omega, by rw [← List.drop_drop, hs.eq, hsu, List.drop_left' rfl]⟩
  have hlt := hj.lt
  have hc := c.toNat_lt
  have hw : wrap64 (((i + u.length : Nat) : Int) + 1) = ((i + (u ++ [c]).length : Nat) : Int) := by unfold wrap64; simp; omega
  have hst : stOf (u ++ [c]) = (plS (stOf u).1 (stOf u).2, c.toNat) := stOf_snoc u c
  have hih := fun (h : c.toNat ≠ 0) => ih (u ++ [c]) (k + 2) (by rw [hsu]; simp) (fun d hd => by rcases List.mem_append.1 hd with hd | hd; exact h0 d hd; rw [List.mem_singleton.1 hd]; exact h) (by omega)
  rw [hst] at hih
  simp only at hih
  have hend : ∀ (h : c.toNat ≠ 0), soundingsref08_number.l0 (k + 2) (bs l) (i : Int) ((i + (u ++ [c]).length : Nat) : Int) = some ((i + u.length + (runS (plS (stOf u).1 (stOf u).2) c.toNat r + 1) : Nat) : Int) := fun h => by
   rw [hih h]; simp; omega
  rw [soundingsref08_number.l0, bs_size, if_pos (by omega), if_pos (by omega), hj.byte, show k + 3 = (k + 1) + 2 from rfl, kind_f _ hc, Option.bind_some, runS]
  rw [show k + 1 + 2 = (k + 2) + 1 from rfl]
  by_cases hlet : isLet c.toNat = true
  ·have hk97 : kindV c.toNat = 97 := by unfold kindV; rw [if_pos hlet]
   have hok : okS (stOf u).1 (stOf u).2 c.toNat = true := by unfold okS; rw [hlet]; rfl
   rw [hk97, if_pos (by rfl), soundingsref08_number.j1, if_pos rfl, hw, if_pos hok]
   exact hend (ok_ne0 hok)
  ·have hlet0 : isLet c.toNat = false := Bool.eq_false_iff.2 hlet
   by_cases hdig : isDig c.toNat = true
   ·have hk48 := (kind48 c.toNat).2 hdig
    have hok : okS (stOf u).1 (stOf u).2 c.toNat = true := by unfold okS; rw [hdig]; simp
    rw [hk48, if_neg (by decide), if_pos (by rfl), soundingsref08_number.j1, if_pos rfl, hw, if_pos hok]
    exact hend (ok_ne0 hok)
   ·have hdig0 : isDig c.toNat = false := Bool.eq_false_iff.2 hdig
    have hkn48 : kindV c.toNat ≠ 48 := fun h => hdig ((kind48 _).1 h)
    have hkn97 : kindV c.toNat ≠ 97 := by
     unfold kindV
     rw [if_neg hlet, if_neg hdig]
     split
     ·decide
     ·intro h97
      rw [h97] at hlet
      exact hlet (by decide)
    rw [if_neg (by omega), if_neg (by omega)]
    by_cases h46 : c.toNat = 46
    ·have hok : okS (stOf u).1 (stOf u).2 c.toNat = true := by unfold okS; rw [h46]; simp
     have hkv : kindV c.toNat = 46 := by rw [h46]; decide
     rw [hkv, show (((46 : Nat) : Int) == 46) = true from rfl, soundingsref08_number.j1, if_pos rfl, hw, if_pos hok]
     exact hend (ok_ne0 hok)
    ·rw [okS_sign hlet0 hdig0 h46]
     have hkc : kindV c.toNat = 32 ∨ kindV c.toNat = c.toNat := by
      unfold kindV
      rw [if_neg hlet, if_neg hdig]
      split
      ·exact Or.inl rfl
      ·exact Or.inr rfl
     have hk46 : (((kindV c.toNat : Nat) : Int) == 46) = false := by rw [beq_eq_false_iff_ne]; omega
     rw [hk46, soundingsref08_number.j1, if_neg (by decide)]
     by_cases hsg : c.toNat = 43 ∨ c.toNat = 45
     ·have hk0 : kindV c.toNat = c.toNat := by
       rcases hsg with h | h <;> rw [h] <;> decide
      have hsgT : isSg c.toNat = true := by rcases hsg with h | h <;> rw [h] <;> decide
      rw [hk0, hsgT, Bool.true_and]
      rcases List.eq_nil_or_concat u with rfl | ⟨v, y, rfl⟩
      ·have hE : (stOf ([] : List UInt8)).2 = 0 := rfl
       rw [hE, show isE 0 = false from rfl, Bool.and_false]
       have hgt : ¬ (((i + ([] : List UInt8).length : Nat) : Int) > (i : Int)) := by simp
       rcases hsg with h | h
       ·rw [h, if_pos (by rfl), if_neg hgt]; rfl
       ·rw [h, if_neg (by decide), if_pos (by rfl), if_neg hgt]; rfl
      ·rw [List.concat_eq_append] at *
       have hst2 : stOf (v ++ [y]) = (v.all fun c => dp c.toNat, y.toNat) := by
        have h1 := stOf_all _ v y (Nat.le_refl _) (fun c hc => h0 c (by simp [hc]))
        have h2 := stOf_snoc v y
        rw [h2] at h1 ⊢
        simp only at h1
        rw [h1]
       rw [hst2]
       simp only
       have hlu : (v ++ [y]).length = v.length + 1 := by simp
       rw [hst2, hlu] at hend
       simp only at hend
       rw [hlu] at hj hlt hw ⊢
       have hgt : ((i + (v.length + 1) : Nat) : Int) > (i : Int) := by omega
       have hw1 : wrap64 (((i + (v.length + 1) : Nat) : Int) - 1) = ((i + v.length : Nat) : Int) := by unfold wrap64; omega
       have hy : At l (i + v.length) (y :: (c :: r)) := ⟨by omega, by rw [← List.drop_drop, hs.eq, hsu, List.append_assoc, List.drop_left' rfl]; rfl⟩
       have hyl := hy.lt
       have hex : (bs l).extract i (i + v.length) = bs v := by
        rw [bs_mid, hs.eq, hsu, List.append_assoc, show i + v.length - i = v.length from by omega, List.take_left' rfl]
       have hpl := plain_f v (by have := hs.len; rw [hsu] at this; simp at this; omega) (k + 2) (by have := hs.len; rw [hsu] at this; simp at this; omega)
       have hc0 : c.toNat ≠ 0 := by rcases hsg with h | h <;> omega
       have hend2 := hend hc0
       have key : (if bt (bs l) (((i + v.length : Nat) : Int)) = 101 then (if 0 ≤ (i : Int) then (if (i : Int) ≤ ((i + v.length : Nat) : Int) then (if ((i + v.length : Nat) : Int) ≤ (l.length : Int) then ((soundingsref08_plain.f (k + 2) ((bs l).extract (i : Int).toNat (((i + v.length : Nat) : Int)).toNat)).bind fun t314 => (if t314 = true then (soundingsref08_number.l0 (k + 2) (bs l) (i : Int) (wrap64 (((i + (v.length + 1) : Nat) : Int) + 1))) else (some ((i + (v.length + 1) : Nat) : Int)))) else none) else none) else none) else (if bt (bs l) (((i + v.length : Nat) : Int)) = 69 then (if 0 ≤ (i : Int) then (if (i : Int) ≤ ((i + v.length : Nat) : Int) then (if ((i + v.length : Nat) : Int) ≤ (l.length : Int) then ((soundingsref08_plain.f (k + 2) ((bs l).extract (i : Int).toNat (((i + v.length : Nat) : Int)).toNat)).bind fun t315 => (if t315 = true then (soundingsref08_number.l0 (k + 2) (bs l) (i : Int) (wrap64 (((i + (v.length + 1) : Nat) : Int) + 1))) else (some ((i + (v.length + 1) : Nat) : Int)))) else none) else none) else none) else (some ((i + (v.length + 1) : Nat) : Int)))) = some ((i + (v.length + 1) + (if ((v.all fun c => dp c.toNat) && isE y.toNat) = true then runS (plS (v.all fun c => dp c.toNat) y.toNat) c.toNat r + 1 else 0) : Nat) : Int) := by
        have ha : (0 : Int) ≤ (i : Int) := by omega
        have hb : (i : Int) ≤ ((i + v.length : Nat) : Int) := by omega
        have hcc : ((i + v.length : Nat) : Int) ≤ (l.length : Int) := by omega
        simp only [if_pos ha, if_pos hb, if_pos hcc]
        rw [hy.byte, Int.toNat_natCast, Int.toNat_natCast, hex, hpl, Option.bind_some, hw, hend2]
        by_cases hE : y.toNat = 101 ∨ y.toNat = 69
        ·have hET : isE y.toNat = true := by rcases hE with h | h <;> rw [h] <;> decide
         rw [hET, Bool.and_true]
         rcases hE with h | h
         ·rw [if_pos (by omega)]
          split <;> rfl
         ·rw [if_neg (by omega), if_pos (by omega)]
          split <;> rfl
        ·have hEF : isE y.toNat = false := by
          unfold isE
          rw [beq_eq_false_iff_ne.2 (fun h => hE (Or.inl h)), beq_eq_false_iff_ne.2 (fun h => hE (Or.inr h))]; rfl
         rw [hEF, Bool.and_false, if_neg (by omega), if_neg (by omega)]
         rfl
       rcases hsg with h | h
       ·rw [if_pos (by omega), if_pos hgt, hw1, if_pos (by omega), bs_size, if_pos (by omega)]
        exact key
       ·rw [if_neg (by omega), if_pos (by omega), if_pos hgt, hw1, if_pos (by omega), bs_size, if_pos (by omega)]
        exact key
     ·have hsgF : isSg c.toNat = false := by
       unfold isSg
       rw [beq_eq_false_iff_ne.2 (fun h => hsg (Or.inl h)), beq_eq_false_iff_ne.2 (fun h => hsg (Or.inr h))]; rfl
      rw [hsgF, if_neg (by omega), if_neg (by omega)]
      rfl
theorem number_f (l : List UInt8) (hl : l.length ≤ 1000000) (i : Nat) (s : List UInt8) (hs : At l i s) (k : Nat) (hk : 3 * l.length + 10 ≤ k) : soundingsref08_number.f k (bs l) (i : Int) = some ((i + runS true 0 s : Nat) : Int) := by
 have := number_l0 l hl i s hs s [] k rfl (fun c hc => by cases hc) (by have := hs.len; omega)
 simpa [soundingsref08_number.f, stOf] using this
end Go.Proofs.YtjleceekccehoaaGreatDoor.Pr
