/- Texts of this session, cut down to what one claim needs and joined: LexP3, PrSoundingsref08Same, LexParts0. -/
import Derived.Test.YtjleceekccehoaaGreatDoorQGJ21
import Derived.Test.YtjleceekccehoaaGreatDoorQGJ0
import Derived.Test.YtjleceekccehoaaGreatDoorQGJ20
section
set_option linter.unusedVariables false
set_option linter.unusedSimpArgs false
namespace Go.Proofs.YtjleceekccehoaaGreatDoor.Pr
open Go.RowKit

theorem lexS_nil (i : Nat) : lexS i [] = .ok [] := rfl
theorem run_all (p : Nat → Bool) : ∀ (u Z : List UInt8), (∀ c ∈ u, p c.toNat = true) → run p (u ++ Z) = u.length + run p Z := by
  intro u
  induction u with
  | nil => intro Z _; simp
  | cons c r ih =>
    intro Z h
    rw [List.cons_append, run, if_pos (h c List.mem_cons_self), ih Z (fun d hd => h d (List.mem_cons_of_mem _ hd))]
    simp; omega
/-- What a run passes by, and what stops it. -/
theorem run_split (p : Nat → Bool) : ∀ (s : List UInt8), ∃ u v, s = u ++ v ∧ u.length = run p s ∧ (∀ c ∈ u, p c.toNat = true) ∧ (v = [] ∨ ∃ c w, v = c :: w ∧ p c.toNat = false) := by
  intro s
  induction s with
  | nil => exact ⟨[], [], rfl, rfl, (fun c hc => by cases hc), Or.inl rfl⟩
  | cons c r ih =>
    by_cases hc : p c.toNat = true
    · obtain ⟨u, v, h1, h2, h3, h4⟩ := ih
      refine ⟨c :: u, v, by rw [h1]; rfl, by rw [run, if_pos hc, List.length_cons, h2], fun d hd => ?_, h4⟩
      rcases List.mem_cons.1 hd with rfl | hd
      · exact hc
      · exact h3 d hd
    · exact ⟨[], c :: r, rfl, by rw [run, if_neg hc]; rfl, (fun d hd => by cases hd), Or.inr ⟨c, r, rfl, Bool.eq_false_iff.2 hc⟩⟩
theorem blankV_run {s : List UInt8} (h : run isBlk s ≠ 0) : blankV s = run isBlk s := by unfold blankV; rw [if_neg h]
theorem blankV_cons {c : UInt8} {r : List UInt8} (h : isBlk c.toNat = false) : blankV (c :: r) = if c.toNat = 35 then run (fun z => z != 10) (c :: r) else 0 := by
  unfold blankV
  rw [if_pos (by rw [run, if_neg (by rw [h]; simp)])]
theorem blankV_zero {c : UInt8} {r : List UInt8} : blankV (c :: r) = 0 ↔ isBlk c.toNat = false ∧ c.toNat ≠ 35 := by
  constructor
  · intro h
    cases hb : isBlk c.toNat with
    | true =>
      have h1 : run isBlk (c :: r) ≠ 0 := by rw [run, if_pos hb]; omega
      rw [blankV_run h1] at h; exact absurd h h1
    | false =>
      refine ⟨rfl, fun h35 => ?_⟩
      rw [blankV_cons hb, if_pos h35, run, if_pos (by rw [h35]; decide)] at h
      omega
  · rintro ⟨h1, h2⟩
    rw [blankV_cons h1, if_neg h2]
/-- u is passed by where Z stands behind it. -/
def Pass (u Z : List UInt8) : Prop := (∀ c ∈ u, isBlk c.toNat = true) ∨ ((∃ c r, u = c :: r ∧ c.toNat = 35) ∧ (∀ c ∈ u, (c.toNat != 10) = true) ∧ (Z = [] ∨ ∃ w, Z = 10 :: w))
theorem lexS_blank' (i : Nat) (s : List UInt8) (hb : blankV s ≠ 0) : lexS i s = lexS (i + blankV s) (s.drop (blankV s)) := by
  cases s with
  | nil => exact absurd rfl hb
  | cons c r => exact lexS_blank i c r hb
theorem pass_by (p : Nat) (u Z : List UInt8) (h : Pass u Z) : lexS p (u ++ Z) = lexS (p + u.length) Z := by
  rcases h with h | ⟨⟨c, r, rfl, h35⟩, h10, hz⟩
  · cases u with
    | nil => rfl
    | cons c r =>
      have hr := run_all isBlk (c :: r) Z h
      have hne : run isBlk (c :: r ++ Z) ≠ 0 := by rw [hr]; simp
      rw [lexS_blank' p _ (by rw [blankV_run hne]; exact hne), blankV_run hne, hr, ← List.drop_drop, List.drop_left' rfl]
      by_cases hk : run isBlk Z = 0
      · rw [hk]; rfl
      · rw [lexS_blank' (p + (c :: r).length) Z (by rw [blankV_run hk]; exact hk), blankV_run hk, Nat.add_assoc]
  · have hb : isBlk c.toNat = false := by rw [h35]; decide
    have hr : run (fun z => z != 10) (c :: r ++ Z) = (c :: r).length := by
      rw [run_all _ _ _ h10]
      rcases hz with rfl | ⟨w, rfl⟩
      · rfl
      · show _ + run (fun z => z != 10) (10 :: w) = _
        rw [run, if_neg (by decide)]
        omega
    have hv : blankV (c :: r ++ Z) = (c :: r).length := by
      rw [List.cons_append, blankV_cons hb, if_pos h35]
      exact hr
    rw [lexS_blank' p _ (by rw [hv]; simp), hv, List.drop_left' rfl]
theorem lexS_tok (p : Nat) (u Z : List UInt8) (k : Nat) (t : List UInt8) (hu : 0 < u.length) (ht : tokAt (u ++ Z) = some (k, t, u.length)) (hb : blankV (u ++ Z) = 0) : lexS p (u ++ Z) = lexCat [⟨(k : Nat), (p : Nat), bs t⟩] (lexS (p + u.length) Z) := by
  cases u with
  | nil => simp at hu
  | cons c r =>
    have := lexS_some p c (r ++ Z) hb k t _ ht
    rw [show (c :: (r ++ Z)).drop (c :: r).length = Z from List.drop_left' (l₁ := c :: r) rfl] at this
    exact this
theorem step_cases {s : List UInt8} (hs : s ≠ []) {i : Nat} {X : List Tok} (h : lexS i s = .ok X) :
    (∃ u v, s = u ++ v ∧ 0 < u.length ∧ Pass u v ∧ lexS (i + u.length) v = .ok X) ∨
    (∃ u v k t X', s = u ++ v ∧ 0 < u.length ∧ tokAt (u ++ v) = some (k, t, u.length) ∧ blankV (u ++ v) = 0 ∧ X = ⟨(k : Nat), (i : Nat), bs t⟩ :: X' ∧ lexS (i + u.length) v = .ok X') := by
  cases s with
  | nil => exact absurd rfl hs
  | cons c r =>
    by_cases hb : blankV (c :: r) = 0
    · right
      cases ht : tokAt (c :: r) with
      | none => rw [lexS_none i c r hb ht] at h; cases h
      | some x =>
        obtain ⟨k, t, n⟩ := x
        have hn := tok_pos ht
        have hl := tok_le ht
        rw [lexS_some i c r hb k t n ht] at h
        cases hr : lexS (i + n) ((c :: r).drop n) with
        | error e => rw [hr] at h; cases h
        | ok X' =>
          rw [hr] at h
          have hX : [(⟨(k : Nat), (i : Nat), bs t⟩ : Tok)] ++ X' = X := by injection h
          have e : (c :: r).take n ++ (c :: r).drop n = c :: r := List.take_append_drop _ _
          have hlen : ((c :: r).take n).length = n := by rw [List.length_take]; omega
          exact ⟨(c :: r).take n, (c :: r).drop n, k, t, X', e.symm, by omega, by rw [e, hlen]; exact ht, by rw [e]; exact hb, hX.symm, by rw [hlen]; exact hr⟩
    · left
      rw [lexS_blank i c r hb] at h
      cases hk : isBlk c.toNat with
      | true =>
        have hne : run isBlk (c :: r) ≠ 0 := by rw [run, if_pos hk]; omega
        obtain ⟨u, v, h1, h2, h3, h4⟩ := run_split isBlk (c :: r)
        rw [blankV_run hne, ← h2] at h
        refine ⟨u, v, h1, by omega, Or.inl h3, ?_⟩
        rw [h1, List.drop_left' rfl] at h
        exact h
      | false =>
        have h35 : c.toNat = 35 := by
          rcases Nat.decEq c.toNat 35 with h | h
          · exact absurd (blankV_zero.2 ⟨hk, h⟩) hb
          · exact h
        obtain ⟨u, v, h1, h2, h3, h4⟩ := run_split (fun z => z != 10) (c :: r)
        have hv : blankV (c :: r) = u.length := by rw [blankV_cons hk, if_pos h35, h2]
        rw [hv] at h hb
        refine ⟨u, v, h1, by omega, Or.inr ⟨?_, h3, ?_⟩, ?_⟩
        · cases u with
          | nil => simp at hb
          | cons d u2 => exact ⟨d, u2, rfl, by injection h1 with h1 _; rw [← h1]; exact h35⟩
        · rcases h4 with rfl | ⟨d, w, rfl, hd⟩
          · exact Or.inl rfl
          · right
            have : d.toNat = 10 := by simpa using hd
            exact ⟨w, by rw [show d = 10 from UInt8.toNat_inj.1 (by rw [this]; rfl)]⟩
        · rw [h1, List.drop_left' rfl] at h
          exact h
theorem fit_app (v b : List UInt8) : Fit v (v ++ 10 :: b) := by
  cases v with
  | nil => exact Or.inr ⟨10, b, rfl, Or.inl (by decide)⟩
  | cons c w => exact Or.inr ⟨c, w ++ 10 :: b, rfl, Or.inr ⟨w, rfl⟩⟩
theorem blank_head {u v v' : List UInt8} (hu : 0 < u.length) (h : blankV (u ++ v) = 0) : blankV (u ++ v') = 0 := by
  cases u with
  | nil => simp at hu
  | cons c r => exact blankV_zero.2 (blankV_zero.1 h)
end Go.Proofs.YtjleceekccehoaaGreatDoor.Pr
end

section
-- Written by a program of this session (wip/hook.py) out of the translation. Not trusted: Lean checks it.
namespace Go.Proofs.YtjleceekccehoaaGreatDoor.Pr
open Go.RowKit Go.Proofs.YtjleceekccehoaaGreatDoorW.PrintWords Go.Proofs.YtjleceekccehoaaGreatDoorW.PrintLast Go.Proofs.YtjleceekccehoaaGreatDoorW.PrintMore
attribute [local go_sem] max2_int min2_int max_two min_two max_three min_three max_four min_four   -- for this text's walks alone
set_option linter.unusedVariables false
set_option linter.unusedSimpArgs false

attribute [local go_sem high] eqA41
/-! ### soundingsref08_Same: function 22 -/
def soundingsref08_Same.l0 : Nat → List (S41) → List (S41) → Int → Option (Bool)
  | 0, _, _, _ => none
  | k + 1, x0, x1, x5 => if x5 < (x0.length : Int) then (if 0 ≤ x5 then (if x5 < (x1.length : Int) then (if (!(((rd_T41 x0 x5).f0) == ((rd_T41 x1 x5).f0)) || (!(((rd_T41 x0 x5).f1) == ((rd_T41 x1 x5).f1)) || (!((((rd_T41 x0 x5).f2).toList) == (((rd_T41 x1 x5).f2).toList))))) = true then (some false) else (soundingsref08_Same.l0 k x0 x1 (wrap64 (x5 + 1)))) else (none)) else (none)) else (some true)
def soundingsref08_Same.f (k : Nat) (l0 : List (S41)) (l1 : List (S41)) : Option (Bool) := if (l0.length : Int) = (l1.length : Int) then (soundingsref08_Same.l0 k l0 l1 0) else (some false)
theorem soundingsref08_Same.mono_l : ∀ k, (∀ y0 y1 y2, LeO (soundingsref08_Same.l0 k y0 y1 y2) (soundingsref08_Same.l0 (k + 1) y0 y1 y2))
  | 0 => fun _ _ _ r h => by simp [soundingsref08_Same.l0] at h
  | k + 1 => by
    have ih0 := soundingsref08_Same.mono_l k
    · intro y0 y1 y2
      unfold soundingsref08_Same.l0
      repeat' first
      | (with_reducible exact ih0 _ _ _)
      | (with_reducible exact LeO.refl _)
      | (with_reducible exact LeO.none _)
      | (with_reducible refine LeO.ite ?_ ?_)
      | (with_reducible refine LeO.bind ?_ (fun _ => ?_))
      | exact ih0 _ _ _
      | exact LeO.none _
      | refine LeO.ite ?_ ?_
      | refine LeO.bind ?_ (fun _ => ?_)
theorem soundingsref08_Same.mono : ∀ a0 a1 k, LeO (soundingsref08_Same.f k a0 a1) (soundingsref08_Same.f (k + 1) a0 a1) := by
  intro a0 a1 k
  have ih0 := soundingsref08_Same.mono_l k
  unfold soundingsref08_Same.f
  repeat' first
      | (with_reducible exact ih0 _ _ _)
      | (with_reducible exact LeO.refl _)
      | (with_reducible exact LeO.none _)
      | (with_reducible refine LeO.ite ?_ ?_)
      | (with_reducible refine LeO.bind ?_ (fun _ => ?_))
      | exact ih0 _ _ _
      | exact LeO.none _
      | refine LeO.ite ?_ ?_
      | refine LeO.bind ?_ (fun _ => ?_)
set_option maxHeartbeats 8000000 in
set_option maxRecDepth 100000 in
theorem soundingsref08_Same.calls (k : Nat) (A0 : Option Addr) (c0 : Nat) (l0 : List (S41)) (A1 : Option Addr) (c1 : Nat) (l1 : List (S41)) (r : Bool) (w : World) (hr0 : Kd.C k41 w A0 l0.length l0) (hc0 : l0.length ≤ c0) (hr1 : Kd.C k41 w A1 l1.length l1) (hc1 : l1.length ≤ c1) (h : soundingsref08_Same.f k l0 l1 = some r) :
    Calls Tryz.prog 22 #[.slice A0 l0.length c0, .slice A1 l1.length c1] w fun e w' => e = .returned (.bool r) ∧ Drawn0 w w' := by
  have hu41 := Tryz.underlying41
  have HR0 := Aside0.mk hr0
  have HC0 := Aside0.mk hc0
  clear hr0 hc0
  have HR1 := Aside0.mk hr1
  have HC1 := Aside0.mk hc1
  clear hr1 hc1
  have H : (if (l0.length : Int) = (l1.length : Int) then (soundingsref08_Same.l0 k l0 l1 0) else (some false)) = some r := h
  clear h
  by_cases c3 : (l0.length : Int) = (l1.length : Int)
  · rw [if_pos c3] at H
    have c3b0 : ((l0.length : Int) == (l1.length : Int)) = true := beq_iff_eq.mpr c3
    have c3b1 : ((l0.length : Int) != (l1.length : Int)) = false := bne_eq_false_iff_eq.mpr c3
    have c3b2 : (l0.length == l1.length) = true := by first | simpa using c3 | (simp at c3 ⊢; omega)
    clear c3
    have H' := Aside0.mk H
    clear H
    go_enter Tryz.func22, Tryz.ntmps22
    go_wp2
    repeat (go_quiet (fail); try go_wp2)
    go_loopg [5] k (fun kq v5 w' => ∃ (x5_1 : Int), v5 = .int .i64 x5_1 ∧ Aside0 (soundingsref08_Same.l0 kq l0 l1 x5_1 = some r) ∧ Aside0 (kq ≤ k) ∧ Drawn0 w w')
    case atStart => exact ⟨(0), (by first | rfl | (simp; done) | (simp [*]; done)), H', ⟨Nat.le_refl _⟩, by repeat (first | exact Drawn0.refl _ | apply Drawn0.step)⟩
    case round =>
      clear H'
      try clear c1
      try clear c2
      try clear p2
      try clear c3
      try clear c3b0
      try clear c3b1
      try clear c3b2
      obtain ⟨x5_1, rfl, HA, HK1, ⟨m1, rfl⟩⟩ := hrel
      cases gk with
      | zero => exact absurd HA.out (by simp [soundingsref08_Same.l0])
      | succ k1 =>
        have H := HA.out
        clear HA
        simp only [soundingsref08_Same.l0] at H
        by_cases c4 : x5_1 < (l0.length : Int)
        · rw [if_pos c4] at H
          have c4b0 : decide (x5_1 < (l0.length : Int)) = true := decide_eq_true c4
          clear c4
          by_cases c5 : 0 ≤ x5_1
          · rw [if_pos c5] at H
            have c5b0 : decide (0 ≤ x5_1) = true := decide_eq_true c5
            clear c5
            by_cases c6 : x5_1 < (l1.length : Int)
            · rw [if_pos c6] at H
              have c6b0 : decide (x5_1 < (l1.length : Int)) = true := decide_eq_true c6
              clear c6
              by_cases c7 : (!(((rd_T41 l0 x5_1).f0) == ((rd_T41 l1 x5_1).f0)) || (!(((rd_T41 l0 x5_1).f1) == ((rd_T41 l1 x5_1).f1)) || (!((((rd_T41 l0 x5_1).f2).toList) == (((rd_T41 l1 x5_1).f2).toList))))) = true
              · rw [if_pos c7] at H
                have c7b0 : (!(((rd_T41 l0 x5_1).f0) == ((rd_T41 l1 x5_1).f0)) || (!(((rd_T41 l0 x5_1).f1) == ((rd_T41 l1 x5_1).f1)) || (!((((rd_T41 l0 x5_1).f2).toList) == (((rd_T41 l1 x5_1).f2).toList))))) = true := c7
                clear c7
                obtain rfl := Option.some.inj H
                have p364 : 0 ≤ (x5_1 : Int) := of_decide_eq_true (by first | (with_reducible assumption) | assumption)
                have q364 : x5_1 < (l0.length : Int) := of_decide_eq_true (by first | (with_reducible assumption) | assumption)
                obtain ⟨ad364, e364, hx364_0, hx364_1, hx364_2⟩ := at_T41 HR0.out x5_1 p364 q364
                cases e364
                replace p364 := eq_true p364
                replace q364 := eq_true q364
                have p365 : 0 ≤ (x5_1 : Int) := of_decide_eq_true (by first | (with_reducible assumption) | assumption)
                have q365 : x5_1 < (l1.length : Int) := of_decide_eq_true (by first | (with_reducible assumption) | assumption)
                obtain ⟨ad365, e365, hx365_0, hx365_1, hx365_2⟩ := at_T41 HR1.out x5_1 p365 q365
                cases e365
                replace p365 := eq_true p365
                replace q365 := eq_true q365
                go_wp2
                repeat (go_quiet (fail); try go_wp2)
                go_ret
                exact ⟨by first | rfl | (simp; done) | (simp [*]; done), by repeat (first | exact Drawn0.refl _ | apply Drawn0.step)⟩
              · rw [if_neg c7] at H
                have c7b0 : (!(((rd_T41 l0 x5_1).f0) == ((rd_T41 l1 x5_1).f0)) || (!(((rd_T41 l0 x5_1).f1) == ((rd_T41 l1 x5_1).f1)) || (!((((rd_T41 l0 x5_1).f2).toList) == (((rd_T41 l1 x5_1).f2).toList))))) = false := by simpa using c7
                clear c7
                have H' := Aside0.mk H
                clear H
                have p364 : 0 ≤ (x5_1 : Int) := of_decide_eq_true (by first | (with_reducible assumption) | assumption)
                have q364 : x5_1 < (l0.length : Int) := of_decide_eq_true (by first | (with_reducible assumption) | assumption)
                obtain ⟨ad364, e364, hx364_0, hx364_1, hx364_2⟩ := at_T41 HR0.out x5_1 p364 q364
                cases e364
                replace p364 := eq_true p364
                replace q364 := eq_true q364
                have p365 : 0 ≤ (x5_1 : Int) := of_decide_eq_true (by first | (with_reducible assumption) | assumption)
                have q365 : x5_1 < (l1.length : Int) := of_decide_eq_true (by first | (with_reducible assumption) | assumption)
                obtain ⟨ad365, e365, hx365_0, hx365_1, hx365_2⟩ := at_T41 HR1.out x5_1 p365 q365
                cases e365
                replace p365 := eq_true p365
                replace q365 := eq_true q365
                go_wp2
                repeat (go_quiet (fail); try go_wp2)
                go_roundg k1
                case measure => have := HK1.out; omega
                case rel => exact ⟨(wrap64 (x5_1 + 1)), (by first | rfl | (simp; done) | (simp [*]; done)), H', ⟨by have := HK1.out; omega⟩, by repeat (first | exact Drawn0.refl _ | apply Drawn0.step)⟩
            · rw [if_neg c6] at H
              exact absurd H (by simp)
          · rw [if_neg c5] at H
            exact absurd H (by simp)
        · rw [if_neg c4] at H
          have c4b0 : decide (x5_1 < (l0.length : Int)) = false := decide_eq_false c4
          clear c4
          obtain rfl := Option.some.inj H
          go_wp2
          repeat (go_quiet (fail); try go_wp2)
          go_ret
          exact ⟨by first | rfl | (simp; done) | (simp [*]; done), by repeat (first | exact Drawn0.refl _ | apply Drawn0.step)⟩
  · rw [if_neg c3] at H
    have c3b0 : ((l0.length : Int) == (l1.length : Int)) = false := beq_eq_false_iff_ne.mpr c3
    have c3b1 : ((l0.length : Int) != (l1.length : Int)) = true := bne_iff_ne.mpr c3
    have c3b2 : (l0.length == l1.length) = false := by first | simpa using c3 | (simp at c3 ⊢; omega)
    obtain rfl := Option.some.inj H
    go_enter Tryz.func22, Tryz.ntmps22
    go_wp2
    repeat (go_quiet (fail); try go_wp2)
    go_ret
    exact ⟨by first | rfl | (simp; done) | (simp [*]; done), by repeat (first | exact Drawn0.refl _ | apply Drawn0.step)⟩

end Go.Proofs.YtjleceekccehoaaGreatDoor.Pr
end

section
set_option linter.unusedVariables false
set_option linter.unusedSimpArgs false
namespace Go.Proofs.YtjleceekccehoaaGreatDoor.Pr
open Go.RowKit Go.Proofs.YtjleceekccehoaaGreatDoorW.PrintWords Go.Proofs.YtjleceekccehoaaGreatDoorW.PrintLast Go.Proofs.YtjleceekccehoaaGreatDoorW.PrintMore

/-- A row of tokens at the head of block g. -/
structure TkR (w : World) (g : Nat) (l : List Tok) : Prop where
  typ : ∃ cells, w.heap[g]? = some (.cells cells 41 (0, 0))
  at_ : ∀ j x, l[j]? = some x → w.cell? ⟨g, j * 3, none⟩ = some (.int .i64 x.f0) ∧ w.cell? ⟨g, j * 3 + 1, none⟩ = some (.int .i64 x.f1) ∧ w.cell? ⟨g, j * 3 + 2, none⟩ = some (.string x.f2)
theorem TkR.froz {w : World} {g : Nat} {l : List Tok} (h : TkR w g l) (j : Nat) : w.frozen? ⟨g, j, none⟩ = false := by
  obtain ⟨cells, hc⟩ := h.typ
  simp [World.frozen?, hc]
theorem TkR.lt {w : World} {g : Nat} {l : List Tok} (h : TkR w g l) : g < w.heap.size := by
  obtain ⟨cells, hc⟩ := h.typ
  exact heap_lt hc
theorem TkR.move {w w' : World} {g : Nat} {l : List Tok} (h : TkR w g l) (hk : w'.heap[g]? = w.heap[g]?) : TkR w' g l := by
  obtain ⟨cells, hc⟩ := h.typ
  refine ⟨⟨cells, hk.trans hc⟩, fun j x hj => ?_⟩
  have := h.at_ j x hj
  rw [World.cell?_of_block (a := ⟨g, _, none⟩) hk, World.cell?_of_block (a := ⟨g, _, none⟩) hk, World.cell?_of_block (a := ⟨g, _, none⟩) hk]
  exact this
theorem cell_ne (w : World) (a b : Addr) (v : Value) (h : a ≠ b) : (w.setCell a v).cell? b = w.cell? b := by
  first | exact World.cell?_setCell_other _ _ _ _ h | exact World.cell?_setCell_other _ _ _ h | exact World.cell?_setCell_other _ _ h
theorem cell_eq (w : World) (a : Addr) (u v : Value) (h : w.cell? a = some u) : (w.setCell a v).cell? a = some v := by
  first | exact World.cell?_setCell_same _ _ _ h | exact World.cell?_setCell_same _ _ h
theorem TkR.put {w : World} {g : Nat} {l : List Tok} (h : TkR w g l) (i : Nat) (x : Tok) (hi : l[i]? = some x) (z : Int) : TkR (w.setCell ⟨g, i * 3 + 1, none⟩ (.int .i64 z)) g (l.set i ⟨x.f0, z, x.f2⟩) := by
  obtain ⟨cells, hc⟩ := h.typ
  refine ⟨⟨cells.setIfInBounds (i * 3 + 1) (.int .i64 z), by simp [World.setCell, Array.getElem?_modify, hc]⟩, fun j y hj => ?_⟩
  rw [List.getElem?_set] at hj
  split at hj
  · rename_i hij
    subst hij
    split at hj
    · have hy := Option.some.inj hj
      subst hy
      have h0 := h.at_ i x hi
      refine ⟨?_, cell_eq _ _ _ _ h0.2.1, ?_⟩
      · rw [cell_ne _ _ _ _ (by simp)]; exact h0.1
      · rw [cell_ne _ _ _ _ (by simp)]; exact h0.2.2
    · cases hj
  · rename_i hij
    have h0 := h.at_ j y hj
    refine ⟨?_, ?_, ?_⟩
    · rw [cell_ne _ _ _ _ (by first | (simp; done) | (simp; omega))]; exact h0.1
    · rw [cell_ne _ _ _ _ (by first | (simp; done) | (simp; omega))]; exact h0.2.1
    · rw [cell_ne _ _ _ _ (by first | (simp; done) | (simp; omega))]; exact h0.2.2
theorem TkR.C {w : World} {g : Nat} {l : List Tok} (h : TkR w g l) (hl : l.length ≤ 1000000) : Kd.C k41 w (some ⟨g, 0, none⟩) l.length l := by
  refine ⟨rfl, by omega, fun _ => ⟨_, rfl, fun j p hj => ⟨[.int .i64 p.f0, .int .i64 p.f1, .string p.f2], rfl, k41_mk w p, fun q u hq => ?_⟩⟩⟩
  have h0 := h.at_ j p hj
  have e : (⟨g, 0, none⟩ : Addr).add (j * 3 + q) = ⟨g, j * 3 + q, none⟩ := by
    simp only [Addr.add]
    split
    · rename_i hz; rw [hz]
    · simp
  show w.cell? ((⟨g, 0, none⟩ : Addr).add (j * 3 + q)) = some u
  rw [e]
  match q, hq with
  | 0, hq => (have := Option.some.inj hq; subst this; exact h0.1)
  | 1, hq => (have := Option.some.inj hq; subst this; exact h0.2.1)
  | 2, hq => (have := Option.some.inj hq; subst this; exact h0.2.2)
  | q + 3, hq => (exfalso; simp at hq)
/-- An own row of tokens that is not empty. -/
theorem row_tk {w : World} {base : Nat} {ok : Nat → Prop} {v : Value} {l : List Tok} (h : Kd.R k41 41 w base ok v l) (h0 : l ≠ []) : ∃ g c, v = .slice (some ⟨g, 0, none⟩) l.length c ∧ l.length ≤ c ∧ base ≤ g ∧ TkR w g l := by
  obtain ⟨A, c, he, hl, hr⟩ := Kd.R_reads h
  have hp : 0 < l.length := List.length_pos_iff.2 h0
  obtain ⟨ad, hA, hc⟩ := hr.2.2 hp
  obtain ⟨inner, ho⟩ := Kd.R_own h
  rcases ho.2 with ⟨hv, _⟩ | ⟨g, cap, cur, hv, hb, hh, _⟩
  · rw [hv] at he
    injection he with h1 h2
    rw [hA] at h1; cases h1
  · rw [hv] at he
    injection he with h1 h2 h3
    rw [hA] at h1
    obtain rfl := (Option.some.inj h1).symm
    refine ⟨g, c, by rw [hv, h3], hl, hb, ⟨cur, hh⟩, fun j x hj => ?_⟩
    obtain ⟨cs, hcs, hR, hcell⟩ := hc j x hj
    obtain rfl := k41_open hR
    have ea : ∀ q, (⟨g, 0, none⟩ : Addr).add (j * (k41).sz + q) = ⟨g, j * 3 + q, none⟩ := fun q => by
      show (⟨g, 0, none⟩ : Addr).add (j * 3 + q) = _
      simp only [Addr.add]
      split
      · rename_i hz; rw [hz]
      · simp
    have c0 := hcell 0 _ rfl
    have c1 := hcell 1 _ rfl
    have c2 := hcell 2 _ rfl
    rw [ea] at c0 c1 c2
    exact ⟨c0, c1, c2⟩
end Go.Proofs.YtjleceekccehoaaGreatDoor.Pr
end
