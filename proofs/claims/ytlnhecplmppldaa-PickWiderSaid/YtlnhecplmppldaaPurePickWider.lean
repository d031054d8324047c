import Derived.Test.YtlnhecplmppldaaPureA
import Derived.Test.YtlnhecplmppldaaPrSoundingslaw06PickWider
set_option linter.unusedVariables false
set_option linter.unusedSimpArgs false
namespace Go.Proofs.Ytlnhecplmppldaa.Pr
open Go.RowKit Go.Proofs.YtlnhecplmppldaaW.PrintWords

theorem at_wider (l : List S29) (t a b : Int) (hab : a ≤ b) (hma : mayT l t a = true) (hmb : mayT l t b = true) (h : (atN l t a).2 = true) : (atN l t b).2 = true ∧ (atN l t a).1 = (atN l t b).1 := by
  unfold atN at h ⊢
  rw [if_pos hma] at h ⊢
  rw [if_pos hmb]
  by_cases h0 : uptoN l t = 0
  · rw [if_pos h0] at h; cases h
  · rw [if_neg h0] at h ⊢
    rw [if_neg h0]
    by_cases c1 : (rd_T29 l ((uptoN l t : Int) - 1)).f0 ≤ t - a
    · rw [if_pos c1] at h; cases h
    · rw [if_neg c1] at h ⊢
      rw [if_neg (show ¬ (rd_T29 l ((uptoN l t : Int) - 1)).f0 ≤ t - b from by omega)]
      by_cases c2 : staleP (rd_T29 l ((uptoN l t : Int) - 1)) = true
      · rw [if_pos c2] at h; cases h
      · rw [if_neg c2]; exact ⟨rfl, rfl⟩
theorem wsub (n m : Nat) (h : n + m ≤ 1099511627776) : wrap64 (((n + m : Nat) : Int) - (m : Int)) = (n : Int) := by unfold wrap64; omega
theorem wadd (n m : Nat) (h : n + m ≤ 1099511627776) : wrap64 ((n : Int) + (m : Int)) = ((n + m : Nat) : Int) := by unfold wrap64; omega
theorem wider_l0 (t a : Int) (z x : List S29) (hlen : (z ++ x).length ≤ 1099511627776) (ha : wrap64 (t - a) = t - a) (hx : ∀ y ∈ x, inW t a y = true) : ∀ (d i k : Nat), i + d = x.length → d < k → soundingslaw06_PickWider.l0 k t a x (z ++ x) (i : Int) = some true := by
  have hl0 : (z ++ x).length = z.length + x.length := List.length_append
  have hl := Aside0.mk hl0
  rw [hl0] at hlen
  clear hl0
  intro d
  induction d with
  | zero =>
    intro i k hi hk
    obtain ⟨k, rfl⟩ : ∃ m, k = m + 1 := ⟨k - 1, by omega⟩
    simp only [soundingslaw06_PickWider.l0]
    rw [if_neg (by omega)]
  | succ d ih =>
    intro i k hi hk
    obtain ⟨k, rfl⟩ : ∃ m, k = m + 1 := ⟨k - 1, by omega⟩
    have hi' : i < x.length := by omega
    have ha' := Aside0.mk ha
    clear ha
    have hxi := hx x[i] (List.getElem_mem _)
    unfold inW at hxi
    simp only [Bool.and_eq_true, decide_eq_true_eq, Bool.not_eq_true'] at hxi
    obtain ⟨⟨q1, q2⟩, q3⟩ := hxi
    have q4 : (x[i]).f1 ≠ 9218868437227405314 := by intro e; unfold staleP at q3; rw [e] at q3; simp at q3
    replace q4 := Aside0.mk q4
    have e : rd_T29 (z ++ x) ((z.length + i : Nat) : Int) = x[i] := by
      rw [rd_eq (z ++ x) (z.length + i) (by rw [hl.out]; omega)]
      simp [List.getElem_append]
    have p1 : (i : Int) < (x.length : Int) := by omega
    have p2 : (0 : Int) ≤ (i : Int) := by omega
    have p3 : (0 : Int) ≤ ((z.length + i : Nat) : Int) := Int.natCast_nonneg _
    have p4 : ((z.length + i : Nat) : Int) < ((z ++ x).length : Int) := by rw [hl.out]; omega
    have p5 : ¬ (x[i]).f0 > t := by omega
    have p6 : ¬ (x[i]).f0 ≤ t - a := by omega
    have ha := ha'.out
    have hw : wrap64 ((i : Int) + 1) = ((i + 1 : Nat) : Int) := wadd i 1 (Nat.le_trans hi' (Nat.le_trans (Nat.le_add_left _ _) hlen))
    have hw1 : wrap64 (((z ++ x).length : Int) - (x.length : Int)) = (z.length : Int) := by rw [hl.out]; exact wsub _ _ hlen
    have hw2 : wrap64 ((z.length : Int) + (i : Int)) = ((z.length + i : Nat) : Int) := wadd _ _ (Nat.le_trans (Nat.add_le_add_left (Nat.le_of_lt hi') _) hlen)
    simp only [soundingslaw06_PickWider.l0, hw1, hw2, hw, ha, e, rd_eq x i hi']
    clear hw hw1 hw2 ha hlen hl
    simp only [if_pos p1, if_pos p2, if_pos p3, if_pos p4, if_neg q4.out, if_neg p5, if_neg p6, beq_self_eq_true, Bool.not_true, Bool.or_self, Bool.false_eq_true, if_false]
    exact ih (i + 1) k (by omega) (by omega)
theorem PurePickWider (l : List S29) (t a b : Int) (hl : l.length ≤ maxLen ∧ ∀ x ∈ l, (Lit.int .i64 x.f0).wf = true ∧ (Lit.int .u64 x.f1).wf = true) (ht : (Lit.int .i64 t).wf = true) (ha : (Lit.int .i64 a).wf = true) (hb : (Lit.int .i64 b).wf = true) : ∃ k, soundingslaw06_PickWider.f k l t a b = some true := by
  refine ⟨2002, ?_⟩
  unfold soundingslaw06_PickWider.f
  rw [awake06_some 2002 (by omega)]
  simp only [Option.bind_some, if_true]
  have j0 : soundingslaw06_PickWider.j0 2002 l t a b true = some true := by simp [soundingslaw06_PickWider.j0]
  by_cases hn : (l.length : Int) > 400
  · rw [if_pos hn, j0]
  rw [if_neg hn]
  by_cases c1 : a < 1
  · rw [if_pos c1, j0]
  rw [if_neg c1]
  by_cases c2 : b < a
  · rw [if_pos c2, j0]
  rw [if_neg c2]
  have h1 : l.length ≤ 1099511627776 := by omega
  rw [rmay_some l t b h1 2002 (by omega)]
  simp only [Option.bind_some]
  cases hm : mayT l t b
  · exact j0
  obtain ⟨b1, b2, b3, b4⟩ := mayT_b hm
  have hm2 : mayT l t a = true := mayT_of hm (tOk_of (by omega) (by omega) (by omega) (by omega))
  have hsub : wrap64 (t - a) = t - a := by unfold wrap64; omega
  have e1 : winN l t a = l.filter (inW t a) := by unfold winN; rw [if_pos hm2]
  have e2 : winN l t b = l.filter (inW (t - a) (b - a)) ++ l.filter (inW t a) := by
    unfold winN; rw [if_pos hm, ← window_meets l t a (b - a) (by omega) (by omega) (mayT_up hm), show a + (b - a) = b from by omega]
  have hlen : ((l.filter (inW (t - a) (b - a))) ++ (l.filter (inW t a))).length ≤ 1099511627776 := by
    rw [← e2]; unfold winN; rw [if_pos hm]; have := List.length_filter_le (inW t b) l; omega
  have hl0 := wider_l0 t a (l.filter (inW (t - a) (b - a))) (l.filter (inW t a)) hlen hsub (fun y hy => (List.mem_filter.1 hy).2) (l.filter (inW t a)).length 0 2000 (by omega) (by have := List.length_filter_le (inW t a) l; omega)
  simp only [soundingslaw06_PickWider.j0, Bool.not_true, Bool.false_eq_true, if_false]
  rw [window_some l t a h1, window_some l t b h1, at_some l t a h1 2001 (by omega), at_some l t b h1 2001 (by omega)]
  simp only [Option.bind_some]
  rw [e1, e2, if_neg (by simp; omega)]
  by_cases ok : (atN l t a).2 = true
  · obtain ⟨o1, o2⟩ := at_wider l t a b (by omega) hm2 hm ok
    rw [if_pos ok, if_pos o1, o2]
    simp only [soundingslaw06_PickWider.j1, bne_self_eq_false, Bool.false_eq_true, if_false]
    exact hl0
  · rw [if_neg ok]
    simp only [soundingslaw06_PickWider.j1, Bool.false_eq_true, if_false]
    exact hl0
end Go.Proofs.Ytlnhecplmppldaa.Pr
