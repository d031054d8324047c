import Derived.Test.YtlnhecplmppldaaPureA
import Derived.Test.YtlnhecplmppldaaPrSoundingslaw06PickMeets
set_option linter.unusedVariables false
set_option linter.unusedSimpArgs false
namespace Go.Proofs.Ytlnhecplmppldaa.Pr
open Go.RowKit Go.Proofs.YtlnhecplmppldaaW.PrintWords

/-- The last of the window is the sample. -/
theorem last_at (l : List S29) (t b : Int) (hm : mayT l t b = true) (v : Int) (h : atN l t b = (v, true)) : ∃ m, (winN l t b).length = m + 1 ∧ (rd_T29 (winN l t b) (m : Nat)).f1 = v := by
  obtain ⟨h1, h2, h3, h4⟩ := mayT_b hm
  unfold atN at h
  rw [if_pos hm] at h
  by_cases h0 : uptoN l t = 0
  · rw [if_pos h0] at h; cases h
  · rw [if_neg h0] at h
    obtain ⟨m, hmm⟩ : ∃ m, uptoN l t = m + 1 := ⟨uptoN l t - 1, by omega⟩
    have hlt : m < l.length := by have := upto_le l t; omega
    rw [show (uptoN l t : Int) - 1 = (m : Nat) from by omega, rd_eq l m hlt] at h
    by_cases c1 : (l[m]).f0 ≤ t - b
    · rw [if_pos c1] at h; cases h
    · rw [if_neg c1] at h
      by_cases c2 : staleP l[m] = true
      · rw [if_pos c2] at h; cases h
      · rw [if_neg c2] at h
        have hv : (l[m]).f1 = v := by injection h
        have hle : (l[m]).f0 ≤ t := by
          have := not_congr (upto_gt l t m hlt (mayT_up hm))
          omega
        have hsplit : l = l.take m ++ l[m] :: l.drop (m + 1) := by
          rw [← List.drop_eq_getElem_cons hlt, List.take_append_drop]
        have hrest : (l.drop (m + 1)).filter (inW t b) = [] := by
          rw [List.filter_eq_nil_iff]
          intro y hy
          obtain ⟨j, hj, rfl⟩ := List.getElem_of_mem hy
          rw [List.getElem_drop]
          have hjl : m + 1 + j < l.length := by simp at hj; omega
          have := (upto_gt l t (m + 1 + j) hjl (mayT_up hm)).2 (by omega)
          simp [inW]; omega
        have hin : inW t b l[m] = true := by
          unfold inW
          rw [decide_eq_true hle, decide_eq_true (by omega : t - b < (l[m]).f0)]
          simpa using c2
        have hw : winN l t b = (l.take m).filter (inW t b) ++ [l[m]] := by
          unfold winN
          rw [if_pos hm]
          conv => lhs; rw [hsplit]
          rw [List.filter_append, List.filter_cons, if_pos hin, hrest]
        refine ⟨((l.take m).filter (inW t b)).length, by rw [hw]; simp, ?_⟩
        rw [hw, ← hv]
        simp [rd_T29]
theorem PurePickMeets (l : List S29) (t a b : Int) (hl : l.length ≤ maxLen ∧ ∀ x ∈ l, (Lit.int .i64 x.f0).wf = true ∧ (Lit.int .u64 x.f1).wf = true) (ht : (Lit.int .i64 t).wf = true) (ha : (Lit.int .i64 a).wf = true) (hb : (Lit.int .i64 b).wf = true) : ∃ k, soundingslaw06_PickMeets.f k l t a b = some true := by
  refine ⟨2002, ?_⟩
  unfold soundingslaw06_PickMeets.f
  rw [awake06_some 2002 (by omega)]
  simp only [Option.bind_some, if_true]
  have j0 : soundingslaw06_PickMeets.j0 2002 l t a b true = some true := by simp [soundingslaw06_PickMeets.j0]
  by_cases hn : (l.length : Int) > 400
  · rw [if_pos hn, j0]
  rw [if_neg hn]
  by_cases c1 : a < 1
  · rw [if_pos c1, j0]
  rw [if_neg c1]
  by_cases c2 : b < 1
  · rw [if_pos c2, j0]
  rw [if_neg c2]
  by_cases c3 : a > 1152921504606846976
  · rw [if_pos c3, j0]
  rw [if_neg c3]
  by_cases c4 : b > 1152921504606846976
  · rw [if_pos c4, j0]
  rw [if_neg c4]
  by_cases c5 : t < -1152921504606846976
  · rw [if_pos c5, j0]
  rw [if_neg c5]
  have h1 : l.length ≤ 1099511627776 := by omega
  rw [rmay_some l t a h1 2002 (by omega)]
  simp only [Option.bind_some]
  cases hm : mayT l t a
  · exact j0
  obtain ⟨b1, b2, b3, b4⟩ := mayT_b hm
  have hm2 : mayT l t (a + b) = true := mayT_of hm (tOk_of (by omega) (by omega) (by omega) (by omega))
  have hm3 : mayT l (t - a) b = true := mayT_of hm (tOk_of (by omega) (by omega) (by omega) (by omega))
  have hw1 : wrap64 (a + b) = a + b := by unfold wrap64; omega
  have hw2 : wrap64 (t - a) = t - a := by unfold wrap64; omega
  have hlen : ∀ q, (l.filter q).length ≤ l.length := fun q => List.length_filter_le _ _
  have e1 : winN l t (a + b) = l.filter (inW t (a + b)) := by unfold winN; rw [if_pos hm2]
  have e2 : winN l (t - a) b = l.filter (inW (t - a) b) := by unfold winN; rw [if_pos hm3]
  have e3 : winN l t a = l.filter (inW t a) := by unfold winN; rw [if_pos hm]
  have el := hlen (inW (t - a) b)
  have el2 := hlen (inW t a)
  have el3 := hlen (inW t (a + b))
  simp only [soundingslaw06_PickMeets.j0, Bool.not_true, Bool.false_eq_true, if_false]
  rw [hw1, hw2, window_some l t (a + b) h1, window_some l (t - a) b h1, window_some l t a h1]
  simp only [Option.bind_some]
  rw [e2, e3]
  rw [if_pos (by simp; omega)]
  simp only [Option.bind_some, List.nil_append]
  rw [if_pos (by omega), at_some l t (a + b) h1 2001 (by omega)]
  simp only [Option.bind_some]
  rw [e1, points_some _ _ (by omega) 2001 (by omega), ← window_meets l t a b (by omega) (by omega) (mayT_up hm)]
  simp only [Option.bind_some, decide_true, if_true]
  by_cases ok : (atN l t (a + b)).2 = true
  · rw [if_pos ok]
    obtain ⟨m, hml, hmv⟩ := last_at l t (a + b) hm2 (atN l t (a + b)).1 (by rw [← ok])
    rw [e1] at hml hmv
    have hw3 : wrap64 (((l.filter (inW t (a + b))).length : Int) - 1) = (m : Nat) := by unfold wrap64; omega
    rw [if_pos (by omega), hw3, if_pos (by omega), if_pos (by omega), hmv]
    simp
  · rw [if_neg ok]
end Go.Proofs.Ytlnhecplmppldaa.Pr
