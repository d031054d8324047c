/- Texts of this session, cut down to what one claim needs and joined: StPure2. -/
import Derived.Test.YtfbockgjhbfidaaGreatDoorQStPure1
import Derived.Test.YtfbockgjhbfidaaGreatDoorQGPureQ
import Derived.Test.YtfbockgjhbfidaaGreatDoorQGPs
import Derived.Test.YtfbockgjhbfidaaGreatDoorQPrSoundingsref05Same
set_option linter.unusedVariables false
set_option linter.unusedSimpArgs false
namespace Go.Proofs.YtfbockgjhbfidaaGreatDoor.Pr
open Go.RowKit Go.Proofs.Fl Go.Proofs.YtfbockgjhbfidaaGreatDoorW.PrintWords

theorem tame_l0 (l : Lbs) (hs : l.length ≤ 9223372036854775807) : ∀ (d i k : Nat), i + d = l.length → d + l.length + 1 < k → ∃ r, soundingsref01_Tame.l0 k l (i : Int) = some r ∧ (r = true → shortB l = true)
 | 0, i, k, hi, hk => by
  obtain ⟨k, rfl⟩ : ∃ m, k = m + 1 := ⟨k - 1, by omega⟩
  rw [soundingsref01_Tame.l0, if_neg (by omega), short_some l hs k (by omega)]
  exact ⟨_, rfl, id⟩
 | d + 1, i, k, hi, hk => by
  obtain ⟨k, rfl⟩ : ∃ m, k = m + 1 := ⟨k - 1, by omega⟩
  have hw : wrap64 ((i : Int) + 1) = ((i + 1 : Nat) : Int) := by unfold wrap64; omega
  rw [soundingsref01_Tame.l0, if_pos (by omega), if_pos (by omega), hw]
  split
  ·exact ⟨_, rfl, fun h => by cases h⟩
  ·exact tame_l0 l hs d (i + 1) k (by omega) (by omega)
theorem tame_ex (l : Lbs) (hs : l.length ≤ 9223372036854775807) (k : Nat) (hk : 2 * l.length + 2 ≤ k) : ∃ r, soundingsref01_Tame.f k l = some r ∧ (r = true → shortB l = true) := tame_l0 l hs l.length 0 k (by omega) (by omega)
/-- What the rows give of a store. -/
def wfS (s : List Ser) : Prop := s.length ≤ 1000000000000000 ∧ ∀ x ∈ s, x.f0.length ≤ 9223372036854775807 ∧ x.f1.length ≤ 1000000000000000
theorem manyN_drop (s : List Ser) (i : Nat) (hi : i < s.length) : manyN (s.drop i) = (s[i]).f1.length + manyN (s.drop (i + 1)) := by
 rw [List.drop_eq_getElem_cons hi]; rfl
theorem short05_l0 (s : List Ser) (hs : wfS s) : ∀ (d i c k : Nat), i + d = s.length → 2 * d + 18446744073709551620 < k → c ≤ 2000000000000000 → ∃ r, soundingsref05_Short.l0 k s (c : Int) (i : Int) = some r ∧ (r = true → (∀ x ∈ s.drop i, shortB x.f0 = true) ∧ c + manyN (s.drop i) ≤ 400)
 | 0, i, c, k, hi, hk, hc => by
  obtain ⟨k, rfl⟩ : ∃ m, k = m + 2 := ⟨k - 2, by omega⟩
  rw [soundingsref05_Short.l0, if_neg (by omega), soundingsref05_Short.j1, if_neg (by decide), List.drop_eq_nil_of_le (by omega)]
  exact ⟨_, rfl, fun h => ⟨(fun _ hx => by cases hx), (by have := of_decide_eq_true h; simp [manyN]; omega)⟩⟩
 | d + 1, i, c, k, hi, hk, hc => by
  obtain ⟨k, rfl⟩ : ∃ m, k = m + 2 := ⟨k - 2, by omega⟩
  have hlt : i < s.length := by omega
  have hx := hs.2 s[i] (List.getElem_mem hlt)
  have h1 := hs.1
  have hw : wrap64 ((i : Int) + 1) = ((i + 1 : Nat) : Int) := by unfold wrap64; omega
  have hw2 : wrap64 ((c : Int) + ((s[i]).f1.length : Int)) = ((c + (s[i]).f1.length : Nat) : Int) := by unfold wrap64; omega
  rw [soundingsref05_Short.l0, if_pos (by omega), soundingsref05_Short.j1]
  by_cases h4 : (c : Int) ≤ 400
  ·rw [if_pos (decide_eq_true h4), if_pos (by omega), if_pos (by omega), rdX_at s i hlt]
   obtain ⟨r, hr, hrs⟩ := tame_ex (s[i]).f0 hx.1 k (by omega)
   rw [hr, Option.bind_some]
   cases r with
   | false => rw [if_neg (by decide)]; exact ⟨_, rfl, fun h => by cases h⟩
   | true =>
    rw [if_pos rfl, hw, hw2]
    obtain ⟨r2, hr2, hrs2⟩ := short05_l0 s hs d (i + 1) (c + (s[i]).f1.length) k (by omega) (by omega) (by omega)
    refine ⟨r2, hr2, fun h => ?_⟩
    obtain ⟨ha, hb⟩ := hrs2 h
    rw [manyN_drop s i hlt]
    refine ⟨fun x hx => ?_, by omega⟩
    rw [List.drop_eq_getElem_cons hlt] at hx
    rcases List.mem_cons.1 hx with rfl | hx
    ·exact hrs rfl
    ·exact ha x hx
  ·rw [if_neg (by rw [decide_eq_false h4]; decide)]
   exact ⟨_, rfl, fun h => absurd (of_decide_eq_true h) h4⟩
theorem short05_ex (s : List Ser) (hs : wfS s) : ∃ k r, soundingsref05_Short.f k s = some r ∧ (r = true → (∀ x ∈ s, shortB x.f0 = true) ∧ s.length + manyN s ≤ 400) := by
 obtain ⟨r, h, hr⟩ := short05_l0 s hs s.length 0 s.length (2 * s.length + 18446744073709551621) (by omega) (by omega) (by have := hs.1; omega)
 exact ⟨_, r, h, fun h2 => by have := hr h2; rwa [List.drop_zero] at this⟩
/-! ### The same -/
theorem points_l0_self (l : List S26) (hl : l.length ≤ 1000000) : ∀ (d i k : Nat), i + d = l.length → d < k → soundingsref05_Points.l0 k l l (i : Int) = some true
 | 0, i, k, hi, hk => by
  obtain ⟨k, rfl⟩ : ∃ m, k = m + 1 := ⟨k - 1, by omega⟩
  rw [soundingsref05_Points.l0, if_neg (by omega)]
 | d + 1, i, k, hi, hk => by
  obtain ⟨k, rfl⟩ : ∃ m, k = m + 1 := ⟨k - 1, by omega⟩
  have hw : wrap64 ((i : Int) + 1) = ((i + 1 : Nat) : Int) := by unfold wrap64; omega
  rw [soundingsref05_Points.l0, if_pos (by omega), if_pos (by omega), if_pos (by omega), if_neg (by simp), hw]
  exact points_l0_self l hl d (i + 1) k (by omega) (by omega)
theorem same_l0_self (s : List Ser) (ho : okS s) : ∀ (d i k : Nat), i + d = s.length → d + 1010000 < k → soundingsref05_Same.l0 k s s (i : Int) = some true
 | 0, i, k, hi, hk => by
  obtain ⟨k, rfl⟩ : ∃ m, k = m + 1 := ⟨k - 1, by omega⟩
  rw [soundingsref05_Same.l0, if_neg (by omega)]
 | d + 1, i, k, hi, hk => by
  obtain ⟨k, rfl⟩ : ∃ m, k = m + 1 := ⟨k - 1, by omega⟩
  have hlt : i < s.length := by omega
  have h1 := ho.1
  obtain ⟨⟨ha, _⟩, hb⟩ := ho.2 s[i] (List.getElem_mem hlt)
  have hw : wrap64 ((i : Int) + 1) = ((i + 1 : Nat) : Int) := by unfold wrap64; omega
  have hp : soundingsref05_Points.f k (s[i]).f1 (s[i]).f1 = some true := by
   unfold soundingsref05_Points.f
   rw [if_pos rfl]
   exact points_l0_self _ hb (s[i]).f1.length 0 k (by omega) (by omega)
  rw [soundingsref05_Same.l0, if_pos (by omega), if_pos (by omega), if_pos (by omega), rdX_at s i hlt, refCmp_some _ _ (by omega) (by omega) k (by omega), Option.bind_some, cmpLs_self, if_pos rfl, hp, Option.bind_some, if_pos rfl, hw]
  exact same_l0_self s ho d (i + 1) k (by omega) (by omega)
theorem same_self (s : List Ser) (ho : okS s) : soundingsref05_Same.f (s.length + 1010001) s s = some true := by
 unfold soundingsref05_Same.f
 rw [if_pos rfl]
 exact same_l0_self s ho s.length 0 _ (by omega) (by omega)
theorem many_l0 (s : List Ser) (h1 : s.length ≤ 1000000) : ∀ (d i c k : Nat), i + d = s.length → d < k → c + manyN (s.drop i) ≤ 1000000 → store_Many.l0 k (c : Int) s (s.length : Int) (i : Int) = some ((c + manyN (s.drop i) : Nat) : Int)
 | 0, i, c, k, hi, hk, hc => by
  obtain ⟨k, rfl⟩ : ∃ m, k = m + 1 := ⟨k - 1, by omega⟩
  rw [store_Many.l0, if_neg (by omega), List.drop_eq_nil_of_le (by omega)]
  rfl
 | d + 1, i, c, k, hi, hk, hc => by
  obtain ⟨k, rfl⟩ : ∃ m, k = m + 1 := ⟨k - 1, by omega⟩
  have hlt : i < s.length := by omega
  rw [manyN_drop s i hlt] at hc ⊢
  have hw : wrap64 ((i : Int) + 1) = ((i + 1 : Nat) : Int) := by unfold wrap64; omega
  have hw2 : wrap64 ((c : Int) + ((s[i]).f1.length : Int)) = ((c + (s[i]).f1.length : Nat) : Int) := by unfold wrap64; omega
  rw [store_Many.l0, if_pos (by omega), if_pos (by omega), if_pos (by omega), rdX_at s i hlt, hw, hw2, many_l0 s h1 d (i + 1) _ k (by omega) (by omega) (by omega), Nat.add_assoc]
theorem many_some (s : List Ser) (h1 : s.length ≤ 1000000) (h : manyN s ≤ 1000000) : store_Many.f (s.length + 1) s = some (manyN s : Int) := by
 have := many_l0 s h1 s.length 0 0 (s.length + 1) (by omega) (by omega) (by rw [List.drop_zero]; omega)
 rw [List.drop_zero, Nat.zero_add] at this
 exact this
/-! ### Append behind Append -/
theorem norm_norm (v : Int) : normI (normI v) = normI v := by
 by_cases h : isN v.toNat = true ∧ v ≠ 9218868437227405314
 ·have e : normI v = 9221120237041090561 := by unfold normI; rw [if_pos h]
  have e2 : normI 9221120237041090561 = 9221120237041090561 := by kernel_rfl
  rw [e, e2]
 ·have e : normI v = v := by unfold normI; rw [if_neg h]
  rw [e, e]
theorem append_ins' (s : List Ser) (l m : Lbs) (t v : Int) (hr : RightP s) (hm : makeV (sortL l) = (m, none)) (h0 : 0 < m.length) (ht : TimP t) : appendV s l t v = match ins m t (normI v) s with | some o => (o, none) | none => ([], some 3) := by
 unfold appendV
 rw [if_pos hr, hm]
 dsimp only
 rw [if_neg (by omega), if_pos ht]
 exact put_ins m t v s hr.2
/-- What it takes to be appended. -/
theorem append_done {s : List Ser} {l : Lbs} {t v : Int} (h : (appendV s l t v).2 = none) : ∃ m o, RightP s ∧ makeV (sortL l) = (m, none) ∧ 0 < m.length ∧ rightB m = true ∧ TimP t ∧ ins m t (normI v) s = some o ∧ appendV s l t v = (o, none) := by
 by_cases hr : RightP s
 ·rcases makeV_two (sortL l) with ⟨e, hR, _⟩ | e
  ·have hm : makeV (sortL l) = ((makeV (sortL l)).1, none) := by rw [← e]
   generalize (makeV (sortL l)).1 = m at *
   by_cases h0 : m.length = 0
   ·exfalso; unfold appendV at h; rw [if_pos hr, hm] at h; dsimp only at h; rw [if_pos h0] at h; cases h
   ·by_cases ht : TimP t
    ·have e2 := append_ins' s l m t v hr hm (by omega) ht
     rw [e2] at h
     cases hi : ins m t (normI v) s with
     | none => rw [hi] at h; cases h
     | some o => exact ⟨m, o, hr, hm, by omega, hR, ht, hi, by rw [e2, hi]⟩
    ·exfalso; unfold appendV at h; rw [if_pos hr, hm] at h; dsimp only at h; rw [if_neg h0, if_neg ht] at h; cases h
  ·exfalso; unfold appendV at h; rw [if_pos hr, e] at h; cases h
 ·exfalso; unfold appendV at h; rw [if_neg hr] at h; cases h
theorem append_fail {s : List Ser} {l : Lbs} {t v : Int} {c : Int} (h : (appendV s l t v).2 = some c) : (appendV s l t v).1 = [] := by
 unfold appendV at h ⊢
 by_cases hr : RightP s
 ·rw [if_pos hr] at h ⊢
  rcases makeV_two (sortL l) with ⟨e, hR, _⟩ | e
  ·have hm : makeV (sortL l) = ((makeV (sortL l)).1, none) := by rw [← e]
   rw [hm] at h ⊢
   dsimp only at h ⊢
   generalize (makeV (sortL l)).1 = m at *
   by_cases h0 : m.length = 0
   ·rw [if_pos h0]
   ·rw [if_neg h0] at h ⊢
    by_cases ht : TimP t
    ·rw [if_pos ht] at h ⊢
     rw [put_ins m t v s hr.2] at h ⊢
     cases hi : ins m t (normI v) s with
     | none => rfl
     | some o => rw [hi] at h; cases h
    ·rw [if_neg ht]
  ·rw [e]
 ·rw [if_neg hr]
theorem one_norm {t v : Int} (ht : TimP t) : OnePt ⟨t, normI v⟩ := ⟨ht, norm_norm v⟩
theorem okS_of {s : List Ser} (h : ∀ x ∈ s, smallL x.f0) (hn : s.length + manyN s ≤ 1000000) : okS s := ⟨by omega, fun x hx => ⟨h x hx, by have := many_each s x hx; omega⟩⟩
theorem small_made {l m : Lbs} (hl : smallL l) (hm : makeV (sortL l) = (m, none)) : smallL m := by
 rcases makeV_two (sortL l) with ⟨_, _, e⟩ | e
 ·have e1 : m = fullL (sortL l) := by rw [← e, hm]
  subst e1
  refine ⟨?_, fun x hx => hl.2 x ((sortL_perm l).mem_iff.1 ((List.mem_filter.1 hx).1))⟩
  have := madeLen (sortL l)
  rw [hm, (sortL_perm l).length_eq] at this
  exact Nat.le_trans this hl.1
 ·rw [hm] at e; cases e
theorem ins_small {m : Lbs} {t nv : Int} {s o : List Ser} (hs : ∀ x ∈ s, smallL x.f0) (hm : smallL m) (h : ins m t nv s = some o) : ∀ x ∈ o, smallL x.f0 := fun x hx => by
 rcases ins_mem m t nv s o h x hx with ⟨z, hz, e⟩ | e
 ·rw [← e]; exact hs z hz
 ·rw [e]; exact hm
end Go.Proofs.YtfbockgjhbfidaaGreatDoor.Pr
