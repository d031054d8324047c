/- Texts of this session, cut down to what one claim needs and joined: StPure3. -/
import Derived.Test.YtfbockgjhbfidaaDoorZStPure2
set_option linter.unusedVariables false
set_option linter.unusedSimpArgs false
namespace Go.Proofs.YtfbockgjhbfidaaDoor.Pr
open Go.RowKit Go.Proofs.Fl Go.Proofs.YtfbockgjhbfidaaDoorW.PrintWords

theorem getLastD_snoc {α : Type} (l : List α) (p d : α) : (l ++ [p]).getLastD d = p := by
  rw [List.getLastD_eq_getLast?, List.getLast?_append]; rfl
/-- What was appended is the last of its series. -/
theorem ins_again (m : Lbs) (t nv : Int) (t' nv' : Int) : ∀ (s o : List Ser), ins m t nv s = some o → (t ≥ t' → ins m t' nv' o = none) ∧ (¬ t ≥ t' → ∃ o', ins m t' nv' o = some o')
  | [], o, h => by
    obtain rfl := Option.some.inj h
    unfold ins newS
    dsimp only
    rw [cmpLs_self, if_neg (by decide), if_pos rfl]
    constructor
    · intro h2; exact if_pos h2
    · intro h2; exact ⟨_, if_neg h2⟩
  | x :: r, o, h => by
    unfold ins at h
    split at h
    · rename_i h1
      obtain ⟨o', ho, rfl⟩ := Option.map_eq_some_iff.1 h
      obtain ⟨a, b⟩ := ins_again m t nv t' nv' r o' ho
      conv => lhs; unfold ins
      conv => rhs; unfold ins
      rw [if_pos h1]
      constructor
      · intro h2; rw [a h2]; rfl
      · intro h2; obtain ⟨o2, e⟩ := b h2; exact ⟨_, by rw [e]; rfl⟩
    · rename_i h1
      split at h
      · rename_i h2
        split at h
        · cases h
        · obtain rfl := Option.some.inj h
          unfold ins
          dsimp only
          rw [if_neg h1, if_pos h2, getLastD_snoc]
          constructor
          · intro h3; exact if_pos h3
          · intro h3; exact ⟨_, if_neg h3⟩
      · obtain rfl := Option.some.inj h
        unfold ins newS
        dsimp only
        rw [cmpLs_self, if_neg (by decide), if_pos rfl]
        constructor
        · intro h3; exact if_pos h3
        · intro h3; exact ⟨_, if_neg h3⟩
/-- P5.1, P5.2 of what is appended, plain. -/
theorem grows_plain {s : List Ser} {l : Lbs} {tp vp v : Int} (hs : ∀ x ∈ s, smallL x.f0) (hn : s.length + manyN s ≤ 400) (hl : smallL l) (h1 : (appendV s l tp vp).2 = none) :
    ∃ m x k n z, makeV (sortL l) = (m, none) ∧ appendV s l tp vp = (x, none) ∧ okS x ∧ m.length ≤ 1000 ∧ TimP tp ∧ k < x.length ∧ n ≤ 1000000 ∧ findV x m = ((k : Int), true) ∧ rd_T71 x (k : Int) = z ∧ z.f1.length = n + 1 ∧ (rd_T56 z.f1 (n : Int)).f0 = tp ∧ appendV x l tp v = ([], some 3) ∧
      (¬ TimP (tp + 1) → appendV x l (tp + 1) v = ([], some 4)) ∧ (TimP (tp + 1) → ∃ y, appendV x l (tp + 1) v = (y, none) ∧ y.length ≤ 1000000 ∧ manyN y = manyN s + 2) := by
  obtain ⟨m, x, hr, hm, h0, hR, ht, hi, e⟩ := append_done h1
  have sm := small_made hl hm
  have c1 := ins_many _ _ _ _ _ hi
  have hx := okS_of (ins_small hs sm hi) (by omega)
  have rx := ins_right m tp _ h0 hR (one_norm ht) s x hr hi
  obtain ⟨k, hk, hkl, hp, hlast⟩ := ins_found m tp _ s x hi
  have ez : x.getD k z71 = x[k] := by rw [List.getD_eq_getElem?_getD, List.getElem?_eq_getElem hkl]; rfl
  rw [ez] at hp hlast
  have hpl := (hx.2 x[k] (List.getElem_mem hkl)).2
  refine ⟨m, x, k, (x[k]).f1.length - 1, x[k], hm, e, hx, sm.1, ht, hkl, by omega, by unfold findV; rw [hk], rdX_at x k hkl, by omega, ?_, ?_, ?_, ?_⟩
  · rw [rdP_at _ _ (by omega)]
    have e2 : (x[k]).f1.getLastD z56 = (x[k]).f1[(x[k]).f1.length - 1]'(by omega) := by
      rw [List.getLastD_eq_getLast?, List.getLast?_eq_getElem?, List.getElem?_eq_getElem (by omega)]; rfl
    rw [← e2, hlast]
  · rw [append_ins' x l m tp v rx hm h0 ht, (ins_again m tp _ tp (normI v) s x hi).1 (Int.le_refl _)]
  · intro hb
    unfold appendV
    rw [if_pos rx, hm]
    dsimp only
    rw [if_neg (by omega), if_neg hb]
  · intro hb
    obtain ⟨y, hy⟩ := (ins_again m tp _ (tp + 1) (normI v) s x hi).2 (by omega)
    have c2 := ins_many _ _ _ _ _ hy
    exact ⟨y, by rw [append_ins' x l m (tp + 1) v rx hm h0 hb, hy], by omega, by omega⟩
end Go.Proofs.YtfbockgjhbfidaaDoor.Pr
