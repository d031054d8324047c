/- Texts of this session, cut down to what one claim needs and joined: StPure1. -/
import Derived.Test.YtfbockgjhbfidaaGreatDoorQStApp0
set_option linter.unusedVariables false
set_option linter.unusedSimpArgs false
namespace Go.Proofs.YtfbockgjhbfidaaGreatDoor.Pr
open Go.RowKit Go.Proofs.Fl Go.Proofs.YtfbockgjhbfidaaGreatDoorW.PrintWords

abbrev Ser := S47
abbrev Lbs := List S44
/-- Append, one series after the other. -/
def ins (m : Lbs) (t nv : Int) : List Ser → Option (List Ser)
 | [] => some [newS m t nv]
 | x :: r => if cmpLs x.f0 m < 0 then (ins m t nv r).map (x :: ·) else if cmpLs x.f0 m = 0 then (if (x.f1.getLastD z26).f0 ≥ t then none else some (⟨x.f0, x.f1 ++ [⟨t, nv⟩]⟩ :: r)) else some (newS m t nv :: x :: r)
theorem firstFrom_up {α : Type} (p : α → Bool) : ∀ (l : List α) (i j : Nat), firstFrom p l (i + j) = (firstFrom p l j).map (i + ·)
 | [], i, j => rfl
 | x :: r, i, j => by
  unfold firstFrom
  by_cases h : p x = true
  ·rw [if_pos h, if_pos h]; rfl
  ·rw [if_neg h, if_neg h, Nat.add_assoc]
   exact firstFrom_up p r i (j + 1)
theorem firstFrom_one {α : Type} (p : α → Bool) (x : α) (r : List α) (h : p x = false) : firstFrom p (x :: r) 0 = (firstFrom p r 0).map (· + 1) := by
 conv => lhs; unfold firstFrom
 rw [if_neg (by rw [h]; decide), show 0 + 1 = 1 + 0 by rfl, firstFrom_up p r 1 0]
 cases firstFrom p r 0 <;> simp [Nat.add_comm]
theorem firstFrom_no {α : Type} (p : α → Bool) : ∀ (l : List α) (i : Nat), (∀ x ∈ l, p x = false) → firstFrom p l i = none
 | [], _, _ => rfl
 | x :: r, i, h => by
  unfold firstFrom
  rw [if_neg (by rw [h x List.mem_cons_self]; decide)]
  exact firstFrom_no p r _ (fun y hy => h y (List.mem_cons_of_mem _ hy))
theorem asc_tail {x : Ser} {r : List Ser} (h : AscS (x :: r)) : (∀ y ∈ r, cmpLs x.f0 y.f0 < 0) ∧ AscS r := List.pairwise_cons.1 h
/-- On a row in order the two are one. -/
theorem put_ins (m : Lbs) (t v : Int) : ∀ s : List Ser, AscS s → putV s m t v = match ins m t (normI v) s with | some o => (o, none) | none => ([], some 3)
 | [], _ => rfl
 | x :: r, h => by
  obtain ⟨hx, hr⟩ := asc_tail h
  have ih := put_ins m t v r hr
  unfold ins
  by_cases h1 : cmpLs x.f0 m < 0
  ·have he : eqP m x = false := by unfold eqP; rw [beq_eq_false_iff_ne]; omega
   have hl : lessN (x :: r) m = lessN r m + 1 := by unfold lessN; rw [List.takeWhile_cons, if_pos (decide_eq_true h1)]; rfl
   rw [if_pos h1]
   unfold putV at ih ⊢
   rw [firstFrom_one _ _ _ he]
   cases hf : firstFrom (eqP m) r 0 with
   | none =>
    rw [hf] at ih
    cases hi : ins m t (normI v) r with
    | none => rw [hi] at ih; simp at ih
    | some o =>
     rw [hi] at ih
     simp only [Prod.mk.injEq, and_true] at ih
     simp only [Option.map_none, Option.map_some]
     unfold putN at ih ⊢
     rw [hl, ← ih]
     rfl
   | some i =>
    rw [hf] at ih
    simp only [Option.map_some]
    dsimp only at ih
    have e1 : (x :: r).getD (i + 1) z47 = r.getD i z47 := rfl
    rw [e1]
    by_cases hg : ((r.getD i z47).f1.getLastD z26).f0 ≥ t
    ·rw [if_pos hg] at ih ⊢
     cases hi : ins m t (normI v) r with
     | none => rfl
     | some o => rw [hi] at ih; simp at ih
    ·rw [if_neg hg] at ih ⊢
     cases hi : ins m t (normI v) r with
     | none => rw [hi] at ih; simp at ih
     | some o =>
      rw [hi] at ih
      simp only [Prod.mk.injEq, and_true] at ih
      simp only [Option.map_some]
      rw [← ih]
      rfl
  ·rw [if_neg h1]
   by_cases h2 : cmpLs x.f0 m = 0
   ·have he : eqP m x = true := by unfold eqP; rw [h2]; rfl
    rw [if_pos h2]
    unfold putV
    have hf : firstFrom (eqP m) (x :: r) 0 = some 0 := by unfold firstFrom; rw [if_pos he]
    rw [hf]
    dsimp only
    have e1 : (x :: r).getD 0 z47 = x := rfl
    rw [e1]
    by_cases hg : (x.f1.getLastD z26).f0 ≥ t
    ·rw [if_pos hg, if_pos hg]
    ·rw [if_neg hg, if_neg hg]
     rfl
   ·rw [if_neg h2]
    have hno : firstFrom (eqP m) (x :: r) 0 = none := firstFrom_no _ _ _ (fun y hy => by
     unfold eqP
     rw [beq_eq_false_iff_ne]
     rcases List.mem_cons.1 hy with rfl | hy
     ·exact h2
     ·have h3 := hx y hy
      have h4 : cmpLs m x.f0 < 0 := by rw [cmpLs_neg]; omega
      have h5 := cmpLs_lt_trans h4 (Int.le_of_lt h3)
      rw [cmpLs_neg] at h5
      omega)
    have hl : lessN (x :: r) m = 0 := by unfold lessN; rw [List.takeWhile_cons, if_neg (by rw [decide_eq_false h1]; decide)]; rfl
    unfold putV
    rw [hno]
    dsimp only
    unfold putN
    rw [hl]
    rfl
/-- Whose labels an answer holds. -/
theorem ins_mem (m : Lbs) (t nv : Int) : ∀ (s o : List Ser), ins m t nv s = some o → ∀ y ∈ o, (∃ z ∈ s, z.f0 = y.f0) ∨ y.f0 = m
 | [], o, h, y, hy => by
  obtain rfl := Option.some.inj h
  obtain rfl := List.mem_singleton.1 hy
  exact .inr rfl
 | x :: r, o, h, y, hy => by
  unfold ins at h
  split at h
  ·obtain ⟨o', ho, rfl⟩ := Option.map_eq_some_iff.1 h
   rcases List.mem_cons.1 hy with rfl | hy
   ·exact .inl ⟨_, List.mem_cons_self, rfl⟩
   ·rcases ins_mem m t nv r o' ho y hy with ⟨z, hz, e⟩ | e
    ·exact .inl ⟨z, List.mem_cons_of_mem _ hz, e⟩
    ·exact .inr e
  ·split at h
   ·split at h
    ·cases h
    ·obtain rfl := Option.some.inj h
     rcases List.mem_cons.1 hy with rfl | hy
     ·exact .inl ⟨x, List.mem_cons_self, rfl⟩
     ·exact .inl ⟨y, List.mem_cons_of_mem _ hy, rfl⟩
   ·obtain rfl := Option.some.inj h
    rcases List.mem_cons.1 hy with rfl | hy
    ·exact .inr rfl
    ·exact .inl ⟨y, hy, rfl⟩
theorem ins_asc (m : Lbs) (t nv : Int) : ∀ (s o : List Ser), AscS s → ins m t nv s = some o → AscS o
 | [], o, _, h => by
  obtain rfl := Option.some.inj h
  exact List.pairwise_singleton _ _
 | x :: r, o, ha, h => by
  obtain ⟨hx, hr⟩ := asc_tail ha
  unfold ins at h
  split at h
  ·rename_i h1
   obtain ⟨o', ho, rfl⟩ := Option.map_eq_some_iff.1 h
   refine List.pairwise_cons.2 ⟨fun y hy => ?_, ins_asc m t nv r o' hr ho⟩
   rcases ins_mem m t nv r o' ho y hy with ⟨z, hz, e⟩ | e
   ·rw [← e]; exact hx z hz
   ·rw [e]; exact h1
  ·rename_i h1
   split at h
   ·split at h
    ·cases h
    ·obtain rfl := Option.some.inj h
     exact List.pairwise_cons.2 ⟨hx, hr⟩
   ·rename_i h2
    obtain rfl := Option.some.inj h
    refine List.pairwise_cons.2 ⟨fun y hy => ?_, ha⟩
    have h4 : cmpLs m x.f0 < 0 := by rw [cmpLs_neg]; omega
    rcases List.mem_cons.1 hy with rfl | hy
    ·exact h4
    ·exact cmpLs_lt_trans h4 (Int.le_of_lt (hx y hy))
theorem up_snoc (l : List S26) (p : S26) (h : Up l) (hp : 0 < l.length) (hl : ¬ (l.getLastD z26).f0 ≥ p.f0) : Up (l ++ [p]) := by
 refine List.pairwise_append.2 ⟨h, List.pairwise_singleton _ _, fun x hx y hy => ?_⟩
 obtain rfl := List.mem_singleton.1 hy
 obtain ⟨j, hj, rfl⟩ := List.mem_iff_getElem.1 hx
 have e : l.getLastD z26 = l[l.length - 1] := by
  rw [List.getLastD_eq_getLast?, List.getLast?_eq_getElem?, List.getElem?_eq_getElem (by omega)]; rfl
 rw [e] at hl
 by_cases hj2 : j = l.length - 1
 ·subst hj2; omega
 ·have := List.pairwise_iff_getElem.1 h j (l.length - 1) hj (by omega) (by omega)
  omega
theorem ins_one (m : Lbs) (t nv : Int) (hm0 : 0 < m.length) (hm : rightB m = true) (ht : OnePt ⟨t, nv⟩) : ∀ (s o : List Ser), (∀ x ∈ s, OneSer x) → ins m t nv s = some o → ∀ y ∈ o, OneSer y
 | s, o, hs, h, y, hy => by
  have hnew : OneSer (newS m t nv) := ⟨hm0, hm, Nat.succ_pos 0, fun p hp => by obtain rfl := List.mem_singleton.1 hp; exact ht, List.pairwise_singleton _ _⟩
  induction s generalizing o with
  | nil =>
   obtain rfl := Option.some.inj h
   obtain rfl := List.mem_singleton.1 hy
   exact hnew
  | cons x r ih =>
   unfold ins at h
   split at h
   ·obtain ⟨o', ho, rfl⟩ := Option.map_eq_some_iff.1 h
    rcases List.mem_cons.1 hy with rfl | hy
    ·exact hs _ List.mem_cons_self
    ·exact ih o' (fun x hx => hs x (List.mem_cons_of_mem _ hx)) ho hy
   ·split at h
    ·split at h
     ·cases h
     ·rename_i hl
      obtain rfl := Option.some.inj h
      rcases List.mem_cons.1 hy with rfl | hy
      ·obtain ⟨a, b, c, d, e⟩ := hs x List.mem_cons_self
       refine ⟨a, b, by simp, fun p hp => ?_, up_snoc _ _ e c hl⟩
       rcases List.mem_append.1 hp with hp | hp
       ·exact d p hp
       ·obtain rfl := List.mem_singleton.1 hp; exact ht
      ·exact hs y (List.mem_cons_of_mem _ hy)
    ·obtain rfl := Option.some.inj h
     rcases List.mem_cons.1 hy with rfl | hy
     ·exact hnew
     ·exact hs y hy
theorem ins_right (m : Lbs) (t nv : Int) (hm0 : 0 < m.length) (hm : rightB m = true) (ht : OnePt ⟨t, nv⟩) (s o : List Ser) (hs : RightP s) (h : ins m t nv s = some o) : RightP o := ⟨ins_one m t nv hm0 hm ht s o hs.1 h, ins_asc m t nv s o hs.2 h⟩
/-- What is appended is found, last of its series. -/
theorem ins_found (m : Lbs) (t nv : Int) : ∀ (s o : List Ser), ins m t nv s = some o → ∃ k, firstFrom (eqP m) o 0 = some k ∧ k < o.length ∧ 0 < (o.getD k z47).f1.length ∧ ((o.getD k z47).f1.getLastD z26) = ⟨t, nv⟩
 | [], o, h => by
  obtain rfl := Option.some.inj h
  exact ⟨0, by unfold firstFrom; rw [if_pos (by unfold eqP newS; rw [cmpLs_self]; rfl)], Nat.succ_pos 0, Nat.succ_pos 0, rfl⟩
 | x :: r, o, h => by
  unfold ins at h
  split at h
  ·rename_i h1
   obtain ⟨o', ho, rfl⟩ := Option.map_eq_some_iff.1 h
   obtain ⟨k, hk, hl, h0, he⟩ := ins_found m t nv r o' ho
   exact ⟨k + 1, by rw [firstFrom_one _ _ _ (by unfold eqP; rw [beq_eq_false_iff_ne]; omega), hk]; rfl, by simpa using hl, h0, he⟩
  ·rename_i h1
   split at h
   ·rename_i h2
    split at h
    ·cases h
    ·obtain rfl := Option.some.inj h
     refine ⟨0, by unfold firstFrom; rw [if_pos (by unfold eqP; rw [h2]; rfl)], Nat.succ_pos _, ?_, ?_⟩
     ·show 0 < (x.f1 ++ [_]).length; simp
     ·show (x.f1 ++ [_]).getLastD _ = _
      rw [List.getLastD_eq_getLast?, List.getLast?_append]; rfl
   ·obtain rfl := Option.some.inj h
    exact ⟨0, by unfold firstFrom; rw [if_pos (by unfold eqP newS; rw [cmpLs_self]; rfl)], Nat.succ_pos _, Nat.succ_pos 0, rfl⟩
def manyN (s : List Ser) : Nat := (s.map fun x => x.f1.length).sum
theorem ins_many (m : Lbs) (t nv : Int) : ∀ (s o : List Ser), ins m t nv s = some o → manyN o = manyN s + 1 ∧ o.length ≤ s.length + 1
 | [], o, h => by
  obtain rfl := Option.some.inj h
  exact ⟨rfl, Nat.le_refl _⟩
 | x :: r, o, h => by
  unfold ins at h
  split at h
  ·obtain ⟨o', ho, rfl⟩ := Option.map_eq_some_iff.1 h
   have := ins_many m t nv r o' ho
   simp only [manyN, List.map_cons, List.sum_cons, List.length_cons] at this ⊢
   omega
  ·split at h
   ·split at h
    ·cases h
    ·obtain rfl := Option.some.inj h
     simp only [manyN, List.map_cons, List.sum_cons, List.length_cons, List.length_append, List.length_nil]
     omega
   ·obtain rfl := Option.some.inj h
    simp only [manyN, newS, List.map_cons, List.sum_cons, List.length_cons, List.length_nil]
    omega
theorem many_each (s : List Ser) : ∀ x ∈ s, x.f1.length ≤ manyN s := by
 induction s with
 | nil => intro x hx; cases hx
 | cons y r ih =>
  intro x hx
  simp only [manyN, List.map_cons, List.sum_cons] at ih ⊢
  rcases List.mem_cons.1 hx with rfl | hx
  ·omega
  ·have := ih x hx; omega
end Go.Proofs.YtfbockgjhbfidaaGreatDoor.Pr
