/- LabelAgain, plain. -/
import Derived.Test.YtfbockgjhbfidaaDoorSLbPureP
import Derived.Test.YtfbockgjhbfidaaDoorSPrSoundingslaw01LabelAgain
set_option linter.unusedVariables false
set_option linter.unusedSimpArgs false
namespace Go.Proofs.YtfbockgjhbfidaaDoor.Pr
open Go.RowKit Go.Proofs.YtfbockgjhbfidaaDoorW.PrintWords

theorem asc_sorted {l : List S46} (h : Asc l) : Sorted l := by
  unfold Asc at h
  unfold Sorted
  refine h.imp ?_
  intro x y h1
  unfold cmpL
  rw [if_neg (by omega)]
  omega
theorem sort_asc {l : List S46} (h : Asc l) : sortL l = l := sorted_unique (sortL_sorted l) (asc_sorted h) (sortL_perm l)
theorem full_right {l : List S46} (h : rightB l = true) : fullL l = l := by
  have hr := (right_iff l).1 h
  unfold fullL
  rw [List.filter_eq_self]
  intro x hx
  rw [(hr.1 x hx).2]
  rfl
/-- Right labels are made again the same. -/
theorem make_right {l : List S46} (h : rightB l = true) : makeV (sortL l) = (l, none) := by
  have hr := (right_iff l).1 h
  rw [sort_asc hr.2.1, makeV_eq l (asc_sorted hr.2.1), full_right h, if_pos ⟨fun x hx => (hr.1 x hx).1, hr.2.1, hr.2.2⟩]
theorem get_asc : ∀ (l : List S46), Asc l → ∀ (i : Nat) (h : i < l.length), getV (l[i]).f0 l = (l[i]).f1
  | [], _, i, h => absurd h (by simp)
  | x :: r, ha, 0, h => by
    show (if x.f0.toList = x.f0.toList then x.f1 else _) = x.f1
    rw [if_pos rfl]
  | x :: r, ha, i + 1, h => by
    unfold Asc at ha
    rw [List.pairwise_cons] at ha
    have hi : i < r.length := by simpa using h
    have hlt := ha.1 r[i] (List.getElem_mem hi)
    show (if x.f0.toList = (r[i]).f0.toList then x.f1 else getV (r[i]).f0 r) = (r[i]).f1
    rw [if_neg (fun e => by have := (eq_cmp _ _).1 e; omega)]
    exact get_asc r ha.2 i hi
theorem has_own (l : List S46) (x : S46) (h : x ∈ l) : hasB (l.map (·.f0)) x.f0 = true := by
  unfold hasB
  rw [List.any_eq_true]
  exact ⟨x.f0, List.mem_map.2 ⟨x, h, rfl⟩, by unfold sameB; simp⟩
theorem keep_own (l : List S46) : keepL l (l.map (·.f0)) = l := by
  unfold keepL
  rw [List.filter_eq_self]
  exact fun x hx => has_own l x hx
theorem drop_own (l : List S46) : dropL l (l.map (·.f0)) = [] := by
  unfold dropL
  rw [List.filter_eq_nil_iff]
  intro x hx
  rw [has_own l x hx]
  decide
theorem keep_none (l : List S46) : keepL l [] = [] := by
  unfold keepL
  rw [List.filter_eq_nil_iff]
  intro x hx
  unfold hasB
  simp
theorem again_l0 (m : List S46) (hm : rightB m = true) (hs : shortB m = true) : ∀ (d i k : Nat), i + d = m.length → 10000 + d ≤ k → soundingslaw01_LabelAgain.l0 k m ((m.take i).map (·.f0)) (i : Int) = some true
  | 0, i, k, hi, hk => by
    obtain ⟨k, rfl⟩ : ∃ n, k = n + 1 := ⟨k - 1, by omega⟩
    have s := short_small hs
    have hr := (right_iff m).1 hm
    have hl : (m.map (·.f0)).length = m.length := List.length_map _
    have kk : label_Keep.f m (m.map (·.f0)) = some m := by unfold label_Keep.f; rw [if_pos ⟨by omega, by omega⟩, keep_own]
    have k0 : label_Keep.f m [] = some [] := by unfold label_Keep.f; rw [if_pos ⟨by omega, by simp⟩, keep_none]
    have dd : label_Drop.f m (m.map (·.f0)) = some [] := by unfold label_Drop.f; rw [if_pos ⟨by omega, by omega⟩, drop_own]
    rw [soundingslaw01_LabelAgain.l0, if_neg (by omega), List.take_of_length_le (by omega), small_dec m s.1, Option.bind_some, make_right hm]
    simp only [Option.isNone_none, if_true]
    rw [labCmp_some m m (by omega) (by omega), Option.bind_some, cmpLs_self, if_pos rfl, kk, Option.bind_some, labCmp_some m m (by omega) (by omega), Option.bind_some, cmpLs_self, if_pos rfl, k0, Option.bind_some, if_pos (by rfl), dd, Option.bind_some]
    rfl
  | d + 1, i, k, hi, hk => by
    obtain ⟨k, rfl⟩ : ∃ n, k = n + 1 := ⟨k - 1, by omega⟩
    have s := short_small hs
    have hr := (right_iff m).1 hm
    have hlt : i < m.length := by omega
    have hw : wrap64 ((i : Int) + 1) = ((i + 1 : Nat) : Int) := by unfold wrap64; omega
    have hg := (get_some (m[i]).f0 m (by omega) k (by omega)).1
    have hne : ¬ (m[i]).f1.toList = [] := fun h => by
      have := (hr.1 m[i] (List.getElem_mem hlt)).2
      rw [h] at this
      cases this
    have e : (m.take i).map (·.f0) ++ [(m[i]).f0] = (m.take (i + 1)).map (·.f0) := by rw [List.take_succ_eq_append_getElem hlt, List.map_append]; rfl
    rw [soundingslaw01_LabelAgain.l0, if_pos (by omega), if_pos (by omega), if_pos (by rw [List.length_map, List.length_take]; omega), rd_at m i hlt, hg, Option.bind_some, get_asc m hr.2.1 i hlt, if_pos rfl, if_neg hne, hw, e]
    exact again_l0 m hm hs d (i + 1) k (by omega) (by omega)
theorem again_law (l : List S46) (wl : l.length ≤ maxLen ∧ ∀ x ∈ l, x.f0.size ≤ maxLen ∧ x.f1.size ≤ maxLen) : ∃ k, soundingslaw01_LabelAgain.f k l = some true := by
  have hl : l.length ≤ 9223372036854775807 := wl.1
  refine ⟨l.length + 20000, ?_⟩
  unfold soundingslaw01_LabelAgain.f
  rw [awake_some _ (by omega), Option.bind_some, if_pos rfl, short_some l hl _ (by omega), Option.bind_some]
  cases h : shortB l with
  | false => rw [if_neg (by decide)]
  | true =>
    rw [if_pos rfl, small_dec l (short_small h).1, Option.bind_some]
    rcases makeV_two (sortL l) with ⟨e1, e2, e3⟩ | e1
    · have hsm := full_short h
      have hs40 := (short_small hsm).2.2
      rw [e3] at e2 ⊢
      rw [e1]
      simp only [Option.isNone_none, if_true]
      exact again_l0 _ e2 hsm (fullL (sortL l)).length 0 _ (by omega) (by omega)
    · rw [e1]
      rfl
end Go.Proofs.YtfbockgjhbfidaaDoor.Pr
