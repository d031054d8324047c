/- LabelMakes, plain: what the walk computes is true. -/
import Derived.Test.YtfbockgjhbfidaaDoorGPureQ
import Derived.Test.YtfbockgjhbfidaaDoorSLbPureT
import Derived.Test.YtfbockgjhbfidaaDoorSPrSoundingslaw01LabelMakes
set_option linter.unusedVariables false
set_option linter.unusedSimpArgs false
namespace Go.Proofs.YtfbockgjhbfidaaDoor.Pr
open Go.RowKit Go.Proofs.YtfbockgjhbfidaaDoorW.PrintWords

theorem makes_some (l : List S46) (s : ByteArray) (hl : l.length ≤ 9223372036854775807) : ∃ k, soundingslaw01_LabelMakes.f k l s = some true := by
  refine ⟨l.length + 10000, ?_⟩
  unfold soundingslaw01_LabelMakes.f
  rw [awake_some _ (by omega), Option.bind_some, if_pos rfl, short_some l hl _ (by omega), Option.bind_some]
  obtain ⟨k, hk⟩ : ∃ k, l.length + 10000 = k + 2 := ⟨l.length + 9998, by omega⟩
  rw [hk]
  cases h : shortB l with
  | false => rw [if_neg (by decide), soundingslaw01_LabelMakes.j0, if_pos rfl]
  | true =>
    rw [if_pos rfl]
    by_cases h4 : (s.size : Int) > 400
    · rw [decide_eq_true h4, soundingslaw01_LabelMakes.j0, if_pos rfl]
    · obtain ⟨h1, _, h3⟩ := short_small h
      have h2 := short_smallR h
      have hc := cmp_self l hl (k + 1) (by omega)
      rw [decide_eq_false h4, soundingslaw01_LabelMakes.j0, if_neg (by decide), Option.bind_some, if_pos (by simp; omega), Option.bind_some, List.nil_append, small_dec l h1, Option.bind_some, refMake_some l h _ (by omega), Option.bind_some,
        right_some h1, Option.bind_some, refRight_some h2, Option.bind_some, if_neg (by simp), labN s _ (by omega), Option.bind_some, refN s (by omega) _ (by omega), Option.bind_some, if_neg (by simp), hc, Option.bind_some]
      rw [soundingslaw01_LabelMakes.j1, if_neg (by decide), refV_eq]
      rcases makeV_two (sortL l) with ⟨e1, e2, e3⟩ | e1
      · have hsm := short_small (full_short h)
        rw [e3] at e2 ⊢
        rw [e1]
        simp only [Option.isNone_none, if_true]
        rw [cmp_self _ (by omega) _ (by omega), Option.bind_some, if_pos rfl, right_some hsm.1, Option.bind_some, e2]
      · rw [e1]
        rfl
theorem makes_law (l : List S46) (s : ByteArray) (wl : l.length ≤ maxLen ∧ ∀ x ∈ l, x.f0.size ≤ maxLen ∧ x.f1.size ≤ maxLen) {P : Prop} (ws : P) : ∃ k, soundingslaw01_LabelMakes.f k l s = some true := makes_some l s wl.1
end Go.Proofs.YtfbockgjhbfidaaDoor.Pr
