import Derived.Test.YtlnhecplmppldaaUWindow
import Derived.Test.YtlnhecplmppldaaPrPickAt
import Derived.Test.YtlnhecplmppldaaPrSoundingslaw06Awake
import Derived.Test.YtlnhecplmppldaaPrSoundingsref06May
import Derived.Test.YtlnhecplmppldaaPrSoundingsref06At
import Derived.Test.YtlnhecplmppldaaPrSoundingsref06Window
import Derived.Test.YtlnhecplmppldaaPrSoundingsref05Points
set_option linter.unusedVariables false
set_option linter.unusedSimpArgs false
namespace Go.Proofs.Ytlnhecplmppldaa.Pr
open Go.RowKit Go.Proofs.YtlnhecplmppldaaW.PrintWords

/-! ### The document's May -/
theorem tOk_ifs' (t wd : Int) : (if t ≥ (-2305843009213693952) then (if t ≤ 2305843009213693952 then (if wd > 0 then (some (decide (wd ≤ 2305843009213693952))) else (some false)) else (some false)) else (some false)) = some (tOk t wd) := by
  rw [← tOk_ifs]
  have : (wd > 0) = (wd ≥ 1) := by rw [eq_iff_iff]; omega
  simp only [this]
theorem rmay_l0 (l : List S29) (t wd : Int) (hn : l.length ≤ 1099511627776) : ∀ (d i k : Nat), i + d = l.length → d < k → soundingsref06_May.l0 k l t wd (i : Int) = some (okFrom (prevOf l i) (l.drop i) && tOk t wd) := by
  intro d
  induction d with
  | zero =>
    intro i k hi hk
    obtain ⟨k, rfl⟩ : ∃ m, k = m + 1 := ⟨k - 1, by omega⟩
    simp only [soundingsref06_May.l0]
    rw [if_neg (by omega), tOk_ifs', List.drop_eq_nil_of_le (by omega)]
    simp [okFrom]
  | succ d ih =>
    intro i k hi hk
    obtain ⟨k, rfl⟩ : ∃ m, k = m + 1 := ⟨k - 1, by omega⟩
    have hlt : i < l.length := by omega
    have hw : wrap64 ((i : Int) + 1) = ((i + 1 : Nat) : Int) := by unfold wrap64; omega
    simp only [soundingsref06_May.l0]
    rw [if_pos (by omega), if_pos (by omega), rd_eq l i hlt, hw, ih (i + 1) k (by omega) (by omega), List.drop_eq_getElem_cons hlt, okFrom_cons, prevOf_succ l i hlt]
    by_cases h1 : (l[i]).f0 < -2305843009213693952
    · rw [if_pos h1, decide_eq_false (by omega)]; simp
    · rw [if_neg h1, decide_eq_true (by omega : -2305843009213693952 ≤ (l[i]).f0)]
      by_cases h2 : (l[i]).f0 > 2305843009213693952
      · rw [if_pos h2, decide_eq_false (by omega)]; simp
      · rw [if_neg h2, decide_eq_true (by omega : (l[i]).f0 ≤ 2305843009213693952)]
        cases i with
        | zero => rw [if_neg (by omega)]; simp [prevOf]
        | succ i =>
          have hw2 : wrap64 (((i + 1 : Nat) : Int) - 1) = (i : Int) := by unfold wrap64; omega
          rw [if_pos (by omega), hw2, if_pos (by omega), if_pos (by omega), rd_eq l i (by omega)]
          have hp : prevOf l (i + 1) = some (l[i]).f0 := prevOf_succ l i (by omega)
          rw [hp]
          by_cases h3 : (l[i + 1]).f0 ≤ (l[i]).f0
          · rw [if_pos h3]; simp only [decide_eq_false (by omega : ¬ (l[i]).f0 < (l[i + 1]).f0)]; simp
          · rw [if_neg h3]; simp only [decide_eq_true (by omega : (l[i]).f0 < (l[i + 1]).f0)]; simp
theorem rmay_some (l : List S29) (t wd : Int) (hn : l.length ≤ 1099511627776) : ∀ k, l.length < k → soundingsref06_May.f k l t wd = some (mayT l t wd) := by
  intro k hk
  have := rmay_l0 l t wd hn l.length 0 k (by omega) hk
  simpa [soundingsref06_May.f, mayT, prevOf] using this
theorem mayT_up {l : List S29} {t wd : Int} (h : mayT l t wd = true) : upB l = true := by
  unfold mayT at h
  rw [Bool.and_eq_true] at h
  exact okFrom_up l none h.1
theorem mayT_b {l : List S29} {t wd : Int} (h : mayT l t wd = true) : -2305843009213693952 ≤ t ∧ t ≤ 2305843009213693952 ∧ 1 ≤ wd ∧ wd ≤ 2305843009213693952 := by
  unfold mayT tOk at h
  simp at h
  omega

/-! ### The sample -/
def atN (l : List S29) (t b : Int) : Int × Bool :=
  if mayT l t b = true then
    if uptoN l t = 0 then (0, false)
    else if (rd_T29 l ((uptoN l t : Int) - 1)).f0 ≤ t - b then (0, false)
    else if staleP (rd_T29 l ((uptoN l t : Int) - 1)) = true then (0, false) else ((rd_T29 l ((uptoN l t : Int) - 1)).f1, true)
  else (0, false)
theorem at_some (l : List S29) (t b : Int) (hn : l.length ≤ 1099511627776) (k : Nat) (hk : l.length < k) : pick_At.f k l t b = some (atN l t b) := by
  unfold pick_At.f atN
  rw [may_some l t b hn k hk]
  simp only [Option.bind_some]
  by_cases hm : mayT l t b = true
  · obtain ⟨h1, h2, h3, h4⟩ := mayT_b hm
    have hle := upto_le l t
    have hu : pick_upto.f l t = some (uptoN l t : Int) := by unfold pick_upto.f; rw [if_pos ⟨mayT_up hm, hn⟩]
    have hw : wrap64 (t - b) = t - b := by unfold wrap64; omega
    rw [if_pos hm, if_pos hm, hu]
    simp only [Option.bind_some]
    by_cases h0 : uptoN l t = 0
    · rw [if_pos h0, if_pos (by omega)]
    · have hw2 : wrap64 ((uptoN l t : Int) - 1) = (uptoN l t : Int) - 1 := by unfold wrap64; omega
      rw [if_neg h0, if_neg (by omega), hw2, if_pos (by omega), if_pos (by omega), hw]
      split
      · rfl
      · show (if staleP _ = true then _ else _) = _
        split <;> rfl
  · rw [if_neg hm, if_neg hm]
def atStep (t b : Int) (acc : Int × Bool) (x : S29) : Int × Bool := if x.f0 ≤ t then (x.f1, decide (t - b < x.f0) && !staleP x) else acc
def fin2 (p : Int × Bool) : Int × Bool := if p.2 = true then (p.1, true) else (0, false)
theorem rat_l0 (l : List S29) (t b : Int) (hn : l.length ≤ 1099511627776) (hm : mayT l t b = true) : ∀ (d i k : Nat) (v : Int) (ok : Bool), i + d = l.length → 2 * d + l.length + 2 < k → soundingsref06_At.l0 k l t b v ok (i : Int) = some (fin2 ((l.drop i).foldl (atStep t b) (v, ok))) := by
  obtain ⟨h1, h2, h3, h4⟩ := mayT_b hm
  have hwt : wrap64 (t - b) = t - b := by unfold wrap64; omega
  intro d
  induction d with
  | zero =>
    intro i k v ok hi hk
    obtain ⟨k, rfl⟩ : ∃ m, k = m + 2 := ⟨k - 2, by omega⟩
    simp only [soundingsref06_At.l0, soundingsref06_At.j1]
    rw [if_neg (by omega), if_neg (by simp), List.drop_eq_nil_of_le (by omega)]
    cases ok <;> rfl
  | succ d ih =>
    intro i k v ok hi hk
    obtain ⟨k, rfl⟩ : ∃ m, k = m + 2 := ⟨k - 2, by omega⟩
    have hlt : i < l.length := by omega
    have hw : wrap64 ((i : Int) + 1) = ((i + 1 : Nat) : Int) := by unfold wrap64; omega
    simp only [soundingsref06_At.l0, soundingsref06_At.j1]
    rw [if_pos (by omega), rmay_some l t b hn (k + 1) (by omega), hm]
    simp only [Option.bind_some, if_true]
    rw [if_pos (by omega), if_pos (by omega), rd_eq l i hlt, hw, hwt, List.drop_eq_getElem_cons hlt, List.foldl_cons]
    rw [ih (i + 1) k _ _ (by omega) (by omega), ih (i + 1) k _ _ (by omega) (by omega), ih (i + 1) k _ _ (by omega) (by omega)]
    by_cases c1 : (l[i]).f0 ≤ t
    · rw [if_pos c1, atStep, if_pos c1]
      by_cases c2 : (l[i]).f0 > t - b
      · rw [if_pos c2, decide_eq_true (by omega : t - b < (l[i]).f0)]; rfl
      · rw [if_neg c2, decide_eq_false (by omega : ¬ t - b < (l[i]).f0)]; rfl
    · rw [if_neg c1, atStep, if_neg c1]
theorem fold_last (t b : Int) : ∀ (l : List S29) (acc : Int × Bool), upB l = true → l.foldl (atStep t b) acc = if uptoN l t = 0 then acc else atStep t b acc (l.getD (uptoN l t - 1) ⟨0, 0⟩)
  | [], acc, _ => by simp [uptoN]
  | x :: r, acc, h => by
    rw [List.foldl_cons, fold_last t b r _ (upB_tail h)]
    by_cases c : x.f0 ≤ t
    · have e : uptoN (x :: r) t = uptoN r t + 1 := by simp [uptoN, c]
      rw [e, if_neg (show ¬ uptoN r t + 1 = 0 from by omega)]
      by_cases h0 : uptoN r t = 0
      · rw [if_pos h0, h0]; rfl
      · rw [if_neg h0]
        have hlt : uptoN r t - 1 < r.length := by have := upto_le r t; omega
        have hr : ((x :: r).getD (uptoN r t + 1 - 1) ⟨0, 0⟩) = r.getD (uptoN r t - 1) ⟨0, 0⟩ := by
          obtain ⟨m, hm⟩ : ∃ m, uptoN r t = m + 1 := ⟨uptoN r t - 1, by omega⟩
          rw [hm]; rfl
        rw [hr]
        have hy : (r.getD (uptoN r t - 1) ⟨0, 0⟩).f0 ≤ t := by
          have := not_congr (upto_gt r t (uptoN r t - 1) hlt (upB_tail h))
          rw [List.getD_eq_getElem?_getD, List.getElem?_eq_getElem hlt]
          simp only [Option.getD_some]
          omega
        simp only [atStep, if_pos hy]
    · have hn : ∀ y ∈ r, t < y.f0 := fun y hy => by have := upB_head h y hy; omega
      have e0 : uptoN r t = 0 := by
        unfold uptoN; rw [List.length_eq_zero_iff, List.filter_eq_nil_iff]; intro y hy; have := hn y hy; simp; omega
      have e : uptoN (x :: r) t = 0 := by
        have : uptoN (x :: r) t = uptoN r t := by simp [uptoN, c]
        omega
      rw [e0, e, if_pos rfl, if_pos rfl, atStep, if_neg c]
theorem rat_some (l : List S29) (t b : Int) (hn : l.length ≤ 1099511627776) (k : Nat) (hk : 3 * l.length + 4 < k) : soundingsref06_At.f k l t b = some (atN l t b) := by
  unfold soundingsref06_At.f
  by_cases hm : mayT l t b = true
  · rw [show (0 : Int) = ((0 : Nat) : Int) from rfl, rat_l0 l t b hn hm l.length 0 k _ _ (by omega) (by omega), List.drop_zero, fold_last t b l _ (mayT_up hm)]
    unfold atN
    rw [if_pos hm]
    by_cases h0 : uptoN l t = 0
    · rw [if_pos h0, if_pos h0]; rfl
    · have hle := upto_le l t
      rw [if_neg h0, if_neg h0]
      have hlt : uptoN l t - 1 < l.length := by omega
      have e : rd_T29 l ((uptoN l t : Int) - 1) = l.getD (uptoN l t - 1) ⟨0, 0⟩ := by
        rw [show (uptoN l t : Int) - 1 = ((uptoN l t - 1 : Nat) : Int) from by omega]; rfl
      have hy : (l.getD (uptoN l t - 1) ⟨0, 0⟩).f0 ≤ t := by
        have := not_congr (upto_gt l t (uptoN l t - 1) hlt (mayT_up hm))
        rw [List.getD_eq_getElem?_getD, List.getElem?_eq_getElem hlt]
        simp only [Option.getD_some]
        omega
      rw [e]
      generalize l.getD (uptoN l t - 1) ⟨0, 0⟩ = y at *
      rw [atStep, if_pos hy]
      by_cases c : y.f0 ≤ t - b
      · rw [if_pos c, decide_eq_false (by omega)]; rfl
      · rw [if_neg c, decide_eq_true (by omega)]
        cases hs : staleP y <;> simp [fin2]
  · have hm' : mayT l t b = false := by simpa using hm
    obtain ⟨k, rfl⟩ : ∃ m, k = m + 2 := ⟨k - 2, by omega⟩
    simp only [soundingsref06_At.l0, soundingsref06_At.j1]
    rw [rmay_some l t b hn (k + 1) (by omega), hm']
    simp only [Option.bind_some, Bool.false_eq_true, if_false, ite_self]
    unfold atN
    rw [if_neg hm]

/-! ### The window -/
def inW (t wide : Int) (x : S29) : Bool := decide (x.f0 ≤ t) && decide (t - wide < x.f0) && !staleP x
theorem drop_take_up (s t : Int) (hst : s ≤ t) : ∀ (l : List S29), upB l = true → (l.drop (uptoN l s)).take (uptoN l t - uptoN l s) = l.filter fun x => decide (x.f0 ≤ t) && decide (s < x.f0)
  | [], _ => by simp [uptoN]
  | x :: r, h => by
    have ih := drop_take_up s t hst r (upB_tail h)
    by_cases c1 : x.f0 ≤ s
    · have e1 : uptoN (x :: r) s = uptoN r s + 1 := by simp [uptoN, c1]
      have e2 : uptoN (x :: r) t = uptoN r t + 1 := by simp [uptoN, (by omega : x.f0 ≤ t)]
      rw [e1, e2, List.drop_succ_cons, Nat.add_sub_add_right, ih, List.filter_cons, decide_eq_false (by omega : ¬ s < x.f0)]
      simp
    · have hn : ∀ y ∈ r, s < y.f0 := fun y hy => by have := upB_head h y hy; omega
      have e0 : uptoN r s = 0 := by
        unfold uptoN; rw [List.length_eq_zero_iff, List.filter_eq_nil_iff]; intro y hy; have := hn y hy; simp; omega
      have e1 : uptoN (x :: r) s = 0 := by
        have : uptoN (x :: r) s = uptoN r s := by simp [uptoN, c1]
        omega
      rw [e0] at ih
      rw [e1]
      simp only [List.drop_zero, Nat.sub_zero] at ih ⊢
      by_cases c2 : x.f0 ≤ t
      · have e2 : uptoN (x :: r) t = uptoN r t + 1 := by simp [uptoN, c2]
        rw [e2, List.take_succ_cons, ih, List.filter_cons, decide_eq_true c2, decide_eq_true (by omega : s < x.f0)]
        simp
      · have hn2 : ∀ y ∈ r, t < y.f0 := fun y hy => by have := upB_head h y hy; omega
        have e3 : uptoN r t = 0 := by
          unfold uptoN; rw [List.length_eq_zero_iff, List.filter_eq_nil_iff]; intro y hy; have := hn2 y hy; simp; omega
        have e2 : uptoN (x :: r) t = 0 := by
          have : uptoN (x :: r) t = uptoN r t := by simp [uptoN, c2]
          omega
        rw [e3] at ih
        rw [e2, List.take_zero, List.filter_cons, decide_eq_false c2, ← ih]
        simp
theorem window_eq (l : List S29) (t wide : Int) (hw : 0 ≤ wide) (h : upB l = true) : windowN l t wide = l.filter (inW t wide) := by
  unfold windowN
  rw [drop_take_up (t - wide) t (by omega) l h, List.filter_filter]
  congr 1
  funext x
  unfold inW
  cases staleP x <;> simp
def winN (l : List S29) (t wide : Int) : List S29 := if mayT l t wide = true then l.filter (inW t wide) else []
theorem window_some (l : List S29) (t wide : Int) (hn : l.length ≤ 1099511627776) : pick_Window.f l t wide = some (winN l t wide) := by
  unfold pick_Window.f winN
  rw [if_pos hn]
  by_cases hm : mayT l t wide = true
  · obtain ⟨h1, h2, h3, h4⟩ := mayT_b hm
    rw [if_pos hm, if_pos hm, window_eq l t wide (by omega) (mayT_up hm)]
  · rw [if_neg hm, if_neg hm]
theorem rwin_l0 (l : List S29) (t b : Int) (hn : l.length ≤ 1099511627776) (hm : mayT l t b = true) : ∀ (d i k : Nat) (acc : List S29), i + d = l.length → acc.length ≤ i → 2 * d + l.length + 2 < k → soundingsref06_Window.l0 k l t b acc (i : Int) = some (acc ++ (l.drop i).filter (inW t b)) := by
  obtain ⟨h1, h2, h3, h4⟩ := mayT_b hm
  have hwt : wrap64 (t - b) = t - b := by unfold wrap64; omega
  intro d
  induction d with
  | zero =>
    intro i k acc hi ha hk
    obtain ⟨k, rfl⟩ : ∃ m, k = m + 2 := ⟨k - 2, by omega⟩
    simp only [soundingsref06_Window.l0, soundingsref06_Window.j1]
    rw [if_neg (by omega), if_neg (by simp), List.drop_eq_nil_of_le (by omega)]
    simp
  | succ d ih =>
    intro i k acc hi ha hk
    obtain ⟨k, rfl⟩ : ∃ m, k = m + 2 := ⟨k - 2, by omega⟩
    have hlt : i < l.length := by omega
    have hw : wrap64 ((i : Int) + 1) = ((i + 1 : Nat) : Int) := by unfold wrap64; omega
    simp only [soundingsref06_Window.l0, soundingsref06_Window.j1]
    rw [if_pos (by omega), rmay_some l t b hn (k + 1) (by omega), hm]
    simp only [Option.bind_some, if_true]
    rw [if_pos (by omega), if_pos (by omega), rd_eq l i hlt, hw, hwt, List.drop_eq_getElem_cons hlt]
    rw [ih (i + 1) k acc (by omega) (by omega) (by omega)]
    by_cases c1 : (l[i]).f0 ≤ t
    · rw [if_pos c1]
      by_cases c2 : (l[i]).f0 > t - b
      · rw [if_pos c2]
        by_cases c3 : (l[i]).f1 = 9218868437227405314
        · rw [if_pos c3, List.filter_cons, if_neg (by simp [inW, staleP, c3])]
        · rw [if_neg c3, if_pos (by omega), ih (i + 1) k _ (by omega) (by simp; omega) (by omega), List.filter_cons, if_pos (by simp [inW, staleP, c3, c1]; omega)]
          simp
      · rw [if_neg c2, List.filter_cons, if_neg (by simp [inW]; intro _ h; omega)]
    · rw [if_neg c1, List.filter_cons, if_neg (by simp [inW, c1])]
theorem rwin_some (l : List S29) (t b : Int) (hn : l.length ≤ 1099511627776) (k : Nat) (hk : 3 * l.length + 4 < k) : soundingsref06_Window.f k l t b = some (winN l t b) := by
  unfold soundingsref06_Window.f winN
  by_cases hm : mayT l t b = true
  · rw [show (0 : Int) = ((0 : Nat) : Int) from rfl, rwin_l0 l t b hn hm l.length 0 k _ (by omega) (by simp) (by omega), if_pos hm]
    simp
  · have hm' : mayT l t b = false := by simpa using hm
    obtain ⟨k, rfl⟩ : ∃ m, k = m + 2 := ⟨k - 2, by omega⟩
    simp only [soundingsref06_Window.l0, soundingsref06_Window.j1]
    rw [rmay_some l t b hn (k + 1) (by omega), hm']
    simp

/-! ### Points -/
theorem S29_ext {x y : S29} (h0 : x.f0 = y.f0) (h1 : x.f1 = y.f1) : x = y := by cases x; cases y; simp_all
instance : DecidableEq S29 := fun x y => if h : x.f0 = y.f0 ∧ x.f1 = y.f1 then isTrue (S29_ext h.1 h.2) else isFalse (fun e => h (by rw [e]; exact ⟨rfl, rfl⟩))
theorem points_l0 (a b : List S29) (hl : a.length = b.length) (hn : a.length ≤ 1099511627776) : ∀ (d i k : Nat), i + d = a.length → d < k → soundingsref05_Points.l0 k a b (i : Int) = some (decide (a.drop i = b.drop i)) := by
  intro d
  induction d with
  | zero =>
    intro i k hi hk
    obtain ⟨k, rfl⟩ : ∃ m, k = m + 1 := ⟨k - 1, by omega⟩
    simp only [soundingsref05_Points.l0]
    rw [if_neg (by omega), List.drop_eq_nil_of_le (by omega), List.drop_eq_nil_of_le (by omega)]
    simp
  | succ d ih =>
    intro i k hi hk
    obtain ⟨k, rfl⟩ : ∃ m, k = m + 1 := ⟨k - 1, by omega⟩
    have ha : i < a.length := by omega
    have hb : i < b.length := by omega
    have hw : wrap64 ((i : Int) + 1) = ((i + 1 : Nat) : Int) := by unfold wrap64; omega
    simp only [soundingsref05_Points.l0]
    rw [if_pos (by omega), if_pos (by omega), if_pos (by omega), rd_eq a i ha, rd_eq b i hb, hw, ih (i + 1) k (by omega) (by omega), List.drop_eq_getElem_cons ha, List.drop_eq_getElem_cons hb]
    by_cases c : a[i] = b[i]
    · rw [if_neg (by simp [c]), c]
      simp only [List.cons.injEq, true_and]
    · rw [if_pos (by
        simp only [Bool.or_eq_true, Bool.not_eq_true', beq_eq_false_iff_ne]
        by_cases c0 : (a[i]).f0 = (b[i]).f0
        · exact .inr (fun c1 => c (S29_ext c0 c1))
        · exact .inl c0)]
      congr 1
      symm
      rw [decide_eq_false_iff_not]
      intro h
      exact c (List.cons.inj h).1
theorem points_some (a b : List S29) (hn : a.length ≤ 1099511627776) (k : Nat) (hk : a.length < k) : soundingsref05_Points.f k a b = some (decide (a = b)) := by
  unfold soundingsref05_Points.f
  by_cases hl : a.length = b.length
  · rw [if_pos (by omega), show (0 : Int) = ((0 : Nat) : Int) from rfl, points_l0 a b hl hn a.length 0 k (by omega) hk, List.drop_zero, List.drop_zero]
  · rw [if_neg (by omega), decide_eq_false (fun h => hl (by rw [h]))]

theorem mayT_of {l : List S29} {t wd t' wd' : Int} (h : mayT l t wd = true) (h' : tOk t' wd' = true) : mayT l t' wd' = true := by
  unfold mayT at h ⊢
  rw [Bool.and_eq_true] at h ⊢
  exact ⟨h.1, h'⟩
theorem tOk_of {t wd : Int} (h1 : -2305843009213693952 ≤ t) (h2 : t ≤ 2305843009213693952) (h3 : 1 ≤ wd) (h4 : wd ≤ 2305843009213693952) : tOk t wd = true := by
  unfold tOk; simp [h1, h2, h3, h4]
/-- Of points in order, those up to s stand ahead of those behind it. -/
theorem filter_split (s : Int) (p q : S29 → Bool) (hp : ∀ x, p x = true → x.f0 ≤ s) (hq : ∀ x, q x = true → s < x.f0) : ∀ (l : List S29), upB l = true → l.filter (fun x => p x || q x) = l.filter p ++ l.filter q
  | [], _ => rfl
  | x :: r, h => by
    have ih := filter_split s p q hp hq r (upB_tail h)
    by_cases c : x.f0 ≤ s
    · have cq : q x = false := by
        cases e : q x with
        | false => rfl
        | true => have := hq x e; omega
      rw [List.filter_cons, List.filter_cons, List.filter_cons, cq, Bool.or_false, ih]
      cases p x <;> simp
    · have cp : ∀ y ∈ x :: r, p y = false := by
        intro y hy
        have hy' : s < y.f0 := by
          rcases List.mem_cons.1 hy with rfl | hy
          · omega
          · have := upB_head h y hy; omega
        cases e : p y with
        | false => rfl
        | true => have := hp y e; omega
      have e1 : (x :: r).filter p = [] := by rw [List.filter_eq_nil_iff]; intro y hy; rw [cp y hy]; simp
      rw [e1, List.nil_append]
      apply List.filter_congr
      intro y hy
      rw [cp y hy]; rfl
theorem window_meets (l : List S29) (t a b : Int) (ha : 0 ≤ a) (hb : 0 ≤ b) (hu : upB l = true) : l.filter (inW t (a + b)) = l.filter (inW (t - a) b) ++ l.filter (inW t a) := by
  rw [← filter_split (t - a) (inW (t - a) b) (inW t a) (fun x h => by simp [inW] at h; omega) (fun x h => by simp [inW] at h; omega) l hu]
  apply List.filter_congr
  intro x _
  unfold inW
  rw [Bool.eq_iff_iff]
  simp
  cases staleP x <;> simp
  omega

/-! ### awake -/
theorem awake06_some (k : Nat) (hk : 10 < k) : soundingslaw06_awake.f k = some true := by
  unfold soundingslaw06_awake.f
  simp only [Option.bind_some]
  rw [at_some [⟨1, 7⟩, ⟨5, 8⟩] 9 5 (by decide) k (by simp; omega), at_some [⟨1, 7⟩, ⟨5, 8⟩] 9 4 (by decide) k (by simp; omega), window_some [⟨1, 7⟩, ⟨5, 8⟩] 5 4 (by decide)]
  simp only [Option.bind_some]
  rw [show atN [⟨1, 7⟩, ⟨5, 8⟩] 9 5 = (8, true) from by decide, show atN [⟨1, 7⟩, ⟨5, 8⟩] 9 4 = (0, false) from by decide, show winN [⟨1, 7⟩, ⟨5, 8⟩] 5 4 = [⟨5, 8⟩] from by rfl]
  rfl

end Go.Proofs.Ytlnhecplmppldaa.Pr
