import Derived.Test.YtlnhecplmppldaaPureA
import Derived.Test.YtlnhecplmppldaaPrSoundingslaw06PickSamples
set_option linter.unusedVariables false
set_option linter.unusedSimpArgs false
namespace Go.Proofs.Ytlnhecplmppldaa.Pr
open Go.RowKit Go.Proofs.YtlnhecplmppldaaW.PrintWords
theorem PurePickSamples (l : List S29) (t b : Int) (hl : l.length ≤ maxLen ∧ ∀ x ∈ l, (Lit.int .i64 x.f0).wf = true ∧ (Lit.int .u64 x.f1).wf = true) (ht : (Lit.int .i64 t).wf = true) (hb : (Lit.int .i64 b).wf = true) : ∃ k, soundingslaw06_PickSamples.f k l t b = some true := by
  by_cases hn : (l.length : Int) > 400
  · exact ⟨11, by unfold soundingslaw06_PickSamples.f; rw [awake06_some 11 (by omega)]; simp only [Option.bind_some, if_true]; rw [if_pos hn]⟩
  · have h1 : l.length ≤ 1099511627776 := by omega
    have hw : (winN l t b).length ≤ l.length := by unfold winN; split <;> simp [List.length_filter_le]
    refine ⟨2000, ?_⟩
    unfold soundingslaw06_PickSamples.f
    rw [awake06_some 2000 (by omega), at_some l t b h1 2000 (by omega), rat_some l t b h1 2000 (by omega), window_some l t b h1, rwin_some l t b h1 2000 (by omega)]
    simp only [Option.bind_some, if_true]
    rw [if_neg hn, points_some _ _ (by omega) 2000 (by omega)]
    simp
end Go.Proofs.Ytlnhecplmppldaa.Pr
