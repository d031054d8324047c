/- LabelOrder, plain. -/
import Derived.Test.YtfbockgjhbfidaaDoorSLbPureC
import Derived.Test.YtfbockgjhbfidaaDoorSPrSoundingslaw01LabelOrder
set_option linter.unusedVariables false
set_option linter.unusedSimpArgs false
namespace Go.Proofs.YtfbockgjhbfidaaDoor.Pr
open Go.RowKit Go.Proofs.YtfbockgjhbfidaaDoorW.PrintWords

theorem makeV_code (l : List S46) : ∃ c, soundingslaw01_Code.f (makeV l).2 = some c := by
  rcases makeV_two l with ⟨e, _, _⟩ | e
  · rw [e]; exact ⟨0, rfl⟩
  · rw [e]; exact ⟨1, rfl⟩
theorem makeV_len (l : List S46) : (makeV l).1.length ≤ l.length := by
  rcases makeV_two l with ⟨_, _, e⟩ | e
  · rw [e]; exact List.length_filter_le _ _
  · rw [e]; exact Nat.zero_le _
theorem order_j2 (a b c : List S46) (ha : a.length ≤ 1000) (hb : b.length ≤ 1000) (hc : c.length ≤ 1000) (k : Nat) : soundingslaw01_LabelOrder.j2 (k + 1) a b c false = some true := by
  have hx := cmpLs_range b a
  have hw : wrap64 (- cmpLs b a) = - cmpLs b a := by unfold wrap64; omega
  rw [soundingslaw01_LabelOrder.j2, if_neg (by decide), labCmp_some a b (by omega) (by omega), Option.bind_some, labCmp_some b c (by omega) (by omega), Option.bind_some, labCmp_some a c (by omega) (by omega), Option.bind_some, labCmp_some b a (by omega) (by omega), Option.bind_some, hw, if_pos (cmpLs_neg b a)]
  have t1 := cmpLs_trans a b c
  have t2 := cmpLs_trans c b a
  have n1 := cmpLs_neg a b
  have n2 := cmpLs_neg b c
  have n3 := cmpLs_neg a c
  (repeat' split) <;> first | rfl | (congr 1; rw [decide_eq_true_iff]; omega) | omega
theorem order_l0 (a b c : List S46) (h1 : shortB a = true) (hb : b.length ≤ 1000) (hc : c.length ≤ 1000) : ∀ (i k : Nat), i ≤ a.length → 5000 + i ≤ k → soundingslaw01_LabelOrder.l0 k a b c (a.drop i).reverse ((i : Int) - 1) = some true
  | 0, k, hi, hk => by
    obtain ⟨k, rfl⟩ : ∃ m, k = m + 2 := ⟨k - 2, by omega⟩
    have hs := short_small h1
    have hsr : smallL a.reverse := ⟨by rw [List.length_reverse]; exact hs.1.1, fun x hx => hs.1.2 x (List.mem_reverse.1 hx)⟩
    have hp : sortL a.reverse = sortL a := sorted_unique (sortL_sorted _) (sortL_sorted _) ((sortL_perm _).trans ((List.reverse_perm a).trans (sortL_perm a).symm))
    obtain ⟨cd, hcd⟩ := makeV_code (sortL a)
    have hl := makeV_len (sortL a)
    rw [(sortL_perm a).length_eq] at hl
    rw [soundingslaw01_LabelOrder.l0, if_neg (by omega), small_dec a hs.1, Option.bind_some, List.drop_zero, small_dec _ hsr, Option.bind_some, hp, hcd, Option.bind_some, Option.bind_some, if_pos rfl, cmp_self _ (by omega) _ (by omega), Option.bind_some]
    exact order_j2 a b c (by omega) hb hc k
  | i + 1, k, hi, hk => by
    obtain ⟨k, rfl⟩ : ∃ m, k = m + 1 := ⟨k - 1, by omega⟩
    have hs := short_small h1
    have hlt : i < a.length := by omega
    have hw : wrap64 (((i + 1 : Nat) : Int) - 1 - 1) = (i : Int) - 1 := by unfold wrap64; omega
    have e : ((i + 1 : Nat) : Int) - 1 = (i : Int) := by omega
    rw [soundingslaw01_LabelOrder.l0, hw, e, if_pos (by omega), if_pos (by omega), if_pos (by omega), if_pos (by rw [List.length_reverse, List.length_drop]; omega), rd_at a i hlt]
    have e2 : (a.drop (i + 1)).reverse ++ [(⟨(a[i]).f0, (a[i]).f1⟩ : S46)] = (a.drop i).reverse := by rw [List.drop_eq_getElem_cons hlt, List.reverse_cons]
    rw [e2]
    exact order_l0 a b c h1 hb hc i k (by omega) (by omega)
theorem order_law (a b c : List S46) (wa : a.length ≤ maxLen ∧ ∀ x ∈ a, x.f0.size ≤ maxLen ∧ x.f1.size ≤ maxLen) (wb : b.length ≤ maxLen ∧ ∀ x ∈ b, x.f0.size ≤ maxLen ∧ x.f1.size ≤ maxLen) (wc : c.length ≤ maxLen ∧ ∀ x ∈ c, x.f0.size ≤ maxLen ∧ x.f1.size ≤ maxLen) : ∃ k, soundingslaw01_LabelOrder.f k a b c = some true := by
  have ha : a.length ≤ 9223372036854775807 := wa.1
  have hb : b.length ≤ 9223372036854775807 := wb.1
  have hc : c.length ≤ 9223372036854775807 := wc.1
  refine ⟨a.length + b.length + c.length + 10000, ?_⟩
  unfold soundingslaw01_LabelOrder.f
  rw [awake_some _ (by omega), Option.bind_some, if_pos rfl, short_some a ha _ (by omega), Option.bind_some]
  obtain ⟨k, hk⟩ : ∃ k, a.length + b.length + c.length + 10000 = k + 1 := ⟨a.length + b.length + c.length + 9999, by omega⟩
  have hout : soundingslaw01_LabelOrder.j0 (k + 1) a b c true = some true := by rw [soundingslaw01_LabelOrder.j0, if_pos rfl]
  rw [short_some b hb _ (by omega), short_some c hc _ (by omega), Option.bind_some, Option.bind_some, hk]
  cases h1 : shortB a with
  | false => rw [if_neg (by decide), hout]
  | true =>
    rw [if_pos rfl]
    cases h2 : shortB b with
    | false => rw [if_neg (by decide), hout]
    | true =>
      rw [if_pos rfl]
      cases h3 : shortB c with
      | false => exact hout
      | true =>
        have s1 := short_small h1
        have s2 := short_small h2
        have s3 := short_small h3
        have hw : wrap64 ((a.length : Int) - 1) = (a.length : Int) - 1 := by unfold wrap64; omega
        rw [Bool.not_true, soundingslaw01_LabelOrder.j0, if_neg (by decide), hw]
        have := order_l0 a b c h1 (by omega) (by omega) a.length k (Nat.le_refl _) (by omega)
        rw [List.drop_length] at this
        exact this
end Go.Proofs.YtfbockgjhbfidaaDoor.Pr
