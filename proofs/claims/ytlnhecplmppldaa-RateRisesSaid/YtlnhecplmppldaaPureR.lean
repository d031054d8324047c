/- The growth of points whose values are not below nought, counting over falls, is not below nought: plain, over the words of rate.Grow. -/
import Derived.Test.YtlnhecplmppldaaGrow
import Derived.Test.YtlnhecplmppldaaFPos2
set_option linter.unusedVariables false
set_option linter.unusedSimpArgs false
namespace Go.Proofs.Ytlnhecplmppldaa.Pr
open Go.RowKit Go.Proofs.Fl Go.Proofs.YtlnhecplmppldaaW.PrintWords

theorem ltF_fin (x y : Nat) (hx : x < INF) (hy : y < INF) : ltF (some x) (some y) = decide (x < y) := by
  show (Ieee.double.order x y == some .lt) = _
  rw [order_fin x y hx hy]
  rcases Nat.lt_trichotomy x y with h | h | h
  · rw [Nat.compare_eq_lt.2 h, decide_eq_true h]; rfl
  · rw [Nat.compare_eq_eq.2 h, decide_eq_false (by omega)]; rfl
  · rw [Nat.compare_eq_gt.2 h, decide_eq_false (by omega)]; rfl
theorem fop_some (op : BinOp) (x y : Nat) : fop op (some x) (some y) = dOp op x y := rfl

theorem falls_nn : ∀ (vs : List Nat) (g : Nat), (∀ v ∈ vs, v < INF) → g ≤ INF → ∃ r, falls true (vs.map some) (some g) = some r ∧ r ≤ INF
  | [], g, _, hg => ⟨g, rfl, hg⟩
  | [x], g, _, hg => ⟨g, rfl, hg⟩
  | x :: y :: r, g, h, hg => by
    have hx := h x (by simp)
    have hy := h y (by simp)
    obtain ⟨s, hs, hs2⟩ := add_nn g x hg (Nat.le_of_lt hx)
    simp only [List.map_cons, falls, Bool.true_and]
    rw [ltF_fin y x hy hx]
    have ih1 := falls_nn (y :: r) s (fun v hv => h v (List.mem_cons_of_mem _ hv)) hs2
    have ih2 := falls_nn (y :: r) g (fun v hv => h v (List.mem_cons_of_mem _ hv)) hg
    by_cases c : y < x
    · rw [if_pos (by simpa using c), fop_some, hs]; exact ih1
    · rw [if_neg (by simpa using c)]; exact ih2
theorem falls_back (q first last : Nat) (hq : q ≤ first) (hl : last < first) : ∀ (vs : List Nat) (x : Nat), (∀ v ∈ x :: vs, v < INF) → first ≤ x → (x :: vs).getLast (by simp) = last → ∃ r, falls true ((x :: vs).map some) (some (2 ^ 63 + q)) = some r ∧ r ≤ INF
  | [], x, _, hx, he => by simp at he; omega
  | y :: r, x, h, hx, he => by
    have hxI := h x (by simp)
    have hyI := h y (by simp)
    simp only [List.map_cons, falls, Bool.true_and]
    rw [ltF_fin y x hyI hxI]
    by_cases c : y < x
    · obtain ⟨s, hs, hs2⟩ := back_fin q x (by omega) hxI (by omega)
      rw [if_pos (by simpa using c), fop_some, hs]
      exact falls_nn (y :: r) s (fun v hv => h v (List.mem_cons_of_mem _ hv)) hs2
    · rw [if_neg (by simpa using c)]
      exact falls_back q first last hq hl r y (fun v hv => h v (List.mem_cons_of_mem _ hv)) (by omega) (by simpa using he)
theorem gain_nn (vs : List Nat) (hne : vs ≠ []) (h : ∀ v ∈ vs, v < INF) : ∃ r, gainS true (vs.map some) = some r ∧ r ≤ INF := by
  obtain ⟨x, r, rfl⟩ : ∃ x r, vs = x :: r := by cases vs with | nil => exact absurd rfl hne | cons x r => exact ⟨x, r, rfl⟩
  have e1 : lastF ((x :: r).map some) = some ((x :: r).getLast (by simp)) := by
    unfold lastF
    rw [List.getLastD_eq_getLast?, List.getLast?_map, List.getLast?_eq_some_getLast (by simp)]
    rfl
  have e2 : ((x :: r).map some).headD none = some x := rfl
  have hl : (x :: r).getLast (by simp) < INF := h _ (List.getLast_mem _)
  obtain ⟨d, hd, hc⟩ := sub_fin ((x :: r).getLast (by simp)) x hl (h x (by simp))
  unfold gainS
  rw [e1, e2, fop_some, hd]
  rcases hc with ⟨_, hd2⟩ | ⟨hlt, q, hq, rfl⟩
  · exact falls_nn (x :: r) d h hd2
  · exact falls_back q x _ hq hlt r x h (Nat.le_refl _) rfl

theorem sec_in (a b : Int) (h1 : 1 ≤ b - a) (h2 : b - a ≤ 2 ^ 53) : ∃ r, secF a b = some r ∧ InR 1012 1069 r := by
  have hi := ofInt_in (b - a) 53 h1 h2 (by omega)
  have hk : InR 1032 1033 4652007308841189376 := by unfold InR; decide
  have hk2 : nf 4652007308841189376 = some 4652007308841189376 := nf_nn (by unfold INF; decide)
  have hx := hi.exp (by omega) (by omega)
  obtain ⟨r, hr, hr2⟩ := quo_in hi hk (by omega) (by omega) (by omega) (by omega) (by omega) (by omega)
  refine ⟨r, ?_, ?_⟩
  · unfold secF
    rw [nf_nn (Nat.le_of_lt hx.2.1), hk2, fop_some, hr]
  · exact hr2
theorem sec_zero (a b : Int) (h : b - a = 0) : secF a b = some 0 := by
  unfold secF
  rw [h, ofInt_zero]
  decide

/-- What is put in front of, or behind, the span. -/
theorem more_in {a b x : Nat} (most : Option Nat) {long mean : Nat} (hl : InR a b long) (hm : InR 1001 1070 mean) (hx : x ≤ 1070 * 2 ^ 52) (ha : 1 ≤ a) (hb : b ≤ 2043) : ∃ r, moreF most (some long) (some mean) (some x) = some r ∧ InR a (max b 1070 + 2) r := by
  unfold moreF
  have hk2 : nf 4611686018427387904 = some 4611686018427387904 := nf_nn (by unfold INF; decide)
  obtain ⟨h, hh, hh2⟩ := quo_in hm (show InR 1024 1024 4611686018427387904 by unfold InR; decide) (by omega) (by omega) (by omega) (by omega) (by omega) (by omega)
  have hk3 : fop .quo (some mean) (some 4611686018427387904) = some h := hh
  rw [hk2, hk3]
  split
  · exact add_in hl hx ha hb (by omega) (by omega)
  · exact add_in hl (show h ≤ 1070 * 2 ^ 52 from hh2.2) ha hb (by omega) (by omega)

theorem begin_in {g span b0 v0 : Nat} (hg : g ≤ INF) (hs : InR 1012 1069 span) (hb : b0 ≤ 1070 * 2 ^ 52) (hv : v0 < INF) : ∃ x, beginF true (some g) (some span) (some b0) (some v0) = some x ∧ x ≤ 1070 * 2 ^ 52 := by
  unfold beginF
  have hspan := hs.exp (by omega) (by omega)
  by_cases c : (true && gtF (some g) (nf 0) && geF (some v0) (nf 0)) = true
  · rw [if_pos c]
    have hg0 : 0 < g := by
      rcases Nat.eq_zero_or_pos g with rfl | h
      · exfalso
        have : gtF (some 0) (nf 0) = false := by decide
        rw [this] at c; simp at c
      · exact h
    obtain ⟨q, hq, hq2⟩ := quo_nn v0 g hv hg hg0
    obtain ⟨p, hp, hp2⟩ := mul_nn span q hspan.2.1 (by omega) hq2
    rw [fop_some, hq, fop_some, hp]
    unfold leastF
    by_cases c2 : ltF (some p) (some b0) = true
    · rw [if_pos c2]
      refine ⟨p, rfl, ?_⟩
      have hb2 : b0 < INF := by unfold INF; omega
      rcases Nat.lt_or_eq_of_le hp2 with h3 | rfl
      · rw [ltF_fin p b0 h3 hb2] at c2
        simp at c2; omega
      · exfalso
        obtain ⟨m, e, r, _⟩ := read_fin b0 hb2
        have : ltF (some INF) (some b0) = false := by
          show (Ieee.double.order INF b0 == some .lt) = false
          unfold Ieee.Format.order
          rw [read_inf, r]; rfl
        rw [this] at c2; cases c2
    · rw [if_neg c2]; exact ⟨b0, rfl, hb⟩
  · rw [if_neg c]; exact ⟨b0, rfl, hb⟩

theorem rest_in (a b : Int) (h1 : 0 ≤ b - a) (h2 : b - a ≤ 2 ^ 53) : ∃ r, secF a b = some r ∧ r ≤ 1070 * 2 ^ 52 := by
  by_cases h : b - a = 0
  · exact ⟨0, sec_zero a b h, Nat.zero_le _⟩
  · obtain ⟨r, hr, hr2⟩ := sec_in a b (by omega) h2
    exact ⟨r, hr, Nat.le_trans hr2.2 (by decide)⟩

/-- The growth, a number that is not below nought. -/
theorem grow_nn (rt : Bool) (l : List S29) (s t : Int) (hn : 2 ≤ l.length) (hn2 : l.length ≤ 400) (hv : ∀ x ∈ l, x.f1.toNat < INF)
    (h1 : s < (rd_T29 l 0).f0) (h2 : (rd_T29 l 0).f0 < (rd_T29 l ((l.length : Int) - 1)).f0) (h3 : (rd_T29 l ((l.length : Int) - 1)).f0 ≤ t) (h4 : t - s ≤ 2 ^ 53) :
    ∃ r, growF true rt l s t = some r ∧ r ≤ INF := by
  have hvals : vals l = (l.map fun p => p.f1.toNat).map some := by
    unfold vals
    rw [List.map_map]
    apply List.map_congr_left
    intro x hx
    exact nf_nn (Nat.le_of_lt (hv x hx))
  obtain ⟨g, hg, hg2⟩ := gain_nn (l.map fun p => p.f1.toNat) (by intro h; rw [List.map_eq_nil_iff] at h; rw [h] at hn; simp at hn) (by intro v hv'; obtain ⟨x, hx, rfl⟩ := List.mem_map.1 hv'; exact hv x hx)
  rw [← hvals] at hg
  have hx0 : (rd_T29 l 0).f1.toNat < INF := by
    apply hv
    unfold rd_T29
    rw [List.getD_eq_getElem?_getD, List.getElem?_eq_getElem (by simp; omega)]
    exact List.getElem_mem _
  unfold growF
  simp only
  generalize rd_T29 l 0 = x0 at *
  generalize rd_T29 l ((l.length : Int) - 1) = xm at *
  obtain ⟨span, hspan, hspan2⟩ := sec_in x0.f0 xm.f0 (by omega) (by omega)
  obtain ⟨b0, hb0, hb02⟩ := rest_in s x0.f0 (by omega) (by omega)
  obtain ⟨re, hre, hre2⟩ := rest_in xm.f0 t (by omega) (by omega)
  obtain ⟨all, hall, hall2⟩ := sec_in s t (by omega) (by omega)
  have hcnt := ofInt_in ((l.length : Int) - 1) 9 (by omega) (by omega) (by omega)
  have hcnt2 := hcnt.exp (by omega) (by omega)
  obtain ⟨mean, hmean, hmean2⟩ := quo_in hspan2 hcnt (by omega) (by omega) (by omega) (by omega) (by omega) (by omega)
  rw [hg, hspan, hb0, hre, hall, nf_nn (Nat.le_of_lt hcnt2.2.1), fop_some, hmean, nf_nn (Nat.le_of_lt hx0)]
  obtain ⟨bg, hbg, hbg2⟩ := begin_in hg2 hspan2 hb02 hx0
  rw [hbg]
  have hmean3 : InR 1001 1070 mean := hmean2
  obtain ⟨l1, hl1, hl12⟩ := more_in (fop .mul (some mean) (nf 4607632778762754458)) hspan2 hmean3 hbg2 (by omega) (by omega)
  rw [hl1]
  obtain ⟨l2, hl2, hl22⟩ := more_in (fop .mul (some mean) (nf 4607632778762754458)) hl12 hmean3 hre2 (by omega) (by omega)
  rw [hl2]
  obtain ⟨part, hpart, hpart2⟩ := quo_in (show InR 1012 1074 l2 from hl22) hspan2 (by omega) (by omega) (by omega) (by omega) (by omega) (by omega)
  rw [fop_some, hpart]
  have hp1 : InR 965 1086 part := hpart2
  cases rt
  · have hp := hp1.exp (by omega) (by omega)
    simp only [Bool.false_eq_true, if_false]
    rw [fop_some]
    exact mul_comm_nn part g hp.2.1 (by omega) hg2
  · obtain ⟨p2, hp2, hp22⟩ := quo_in hp1 hall2 (by omega) (by omega) (by omega) (by omega) (by omega) (by omega)
    have hp3 : InR 918 1098 p2 := hp22
    have hp := hp3.exp (by omega) (by omega)
    simp only [if_true]
    rw [fop_some, hp2, fop_some]
    exact mul_comm_nn p2 g hp.2.1 (by omega) hg2

end Go.Proofs.Ytlnhecplmppldaa.Pr
