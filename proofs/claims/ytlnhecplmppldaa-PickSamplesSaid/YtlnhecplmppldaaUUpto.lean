import Derived.Test.YtlnhecplmppldaaSearch
import Derived.Test.YtlnhecplmppldaaPrPickMay
set_option linter.unusedVariables false
set_option linter.unusedSimpArgs false
namespace Go.Proofs.Ytlnhecplmppldaa.Pr
open Go.RowKit Go.Proofs.Fl Go.Proofs.YtlnhecplmppldaaW.PrintWords Go.Proofs.YtlnhecplmppldaaW.PrintLast Go.Proofs.YtlnhecplmppldaaW.PrintMore

/-- Times go up. -/
def upB : List S29 → Bool
  | x :: y :: r => decide (x.f0 < y.f0) && upB (y :: r)
  | _ => true
/-- How many points have times that are at most one. -/
def uptoN (l : List S29) (t : Int) : Nat := (l.filter fun x => decide (x.f0 ≤ t)).length
def pick_upto.f (l0 : List S29) (a1 : Int) : Option Int := if upB l0 = true ∧ l0.length ≤ 1099511627776 then some (uptoN l0 a1 : Int) else none

theorem upB_tail {x : S29} {r : List S29} (h : upB (x :: r) = true) : upB r = true := by
  cases r with
  | nil => rfl
  | cons y r => simp [upB] at h; exact h.2
theorem upB_head {x : S29} : ∀ {r : List S29}, upB (x :: r) = true → ∀ y ∈ r, x.f0 < y.f0
  | [], _, y, hy => by cases hy
  | z :: r, h, y, hy => by
    have h1 : x.f0 < z.f0 := by simp [upB] at h; exact h.1
    rcases List.mem_cons.1 hy with rfl | hy
    · exact h1
    · exact Int.lt_trans h1 (upB_head (upB_tail h) y hy)
theorem upto_le (l : List S29) (t : Int) : uptoN l t ≤ l.length := List.length_filter_le _ _
theorem upto_gt : ∀ (l : List S29) (t : Int) (i : Nat) (h : i < l.length), upB l = true → (t < l[i].f0 ↔ uptoN l t ≤ i)
  | [], _, i, h, _ => absurd h (Nat.not_lt_zero _)
  | x :: r, t, i, h, hu => by
    unfold uptoN
    by_cases hx : x.f0 ≤ t
    · rw [List.filter_cons, if_pos (decide_eq_true hx)]
      cases i with
      | zero => simp; omega
      | succ i =>
        have := upto_gt r t i (by simpa using h) (upB_tail hu)
        unfold uptoN at this
        simp only [List.getElem_cons_succ, List.length_cons]
        omega
    · have hn : r.filter (fun x => decide (x.f0 ≤ t)) = [] := by
        rw [List.filter_eq_nil_iff]
        intro y hy
        have := upB_head hu y hy
        simp; omega
      rw [List.filter_cons, if_neg (by simpa using hx), hn]
      simp only [List.length_nil, Nat.zero_le, iff_true]
      cases i with
      | zero => simp; omega
      | succ i =>
        have hi : i < r.length := by simpa using h
        simp only [List.getElem_cons_succ]
        have := upB_head hu r[i] (List.getElem_mem _)
        omega

theorem upto1_any (A0 : Option Addr) (c0 : Nat) (l0 : List S29) (t : Int) (g1 g2 : Nat) (w : World) (hr0 : Kd.C k29 w A0 l0.length l0) (h1 : w.cell? ⟨g1, 0, none⟩ = some (.slice A0 l0.length c0)) (h2 : w.cell? ⟨g2, 0, none⟩ = some (.int .i64 t)) (i : Nat) (hi : i < l0.length) :
    Calls Try.prog 44 #[.int .i64 i, .pointer (some ⟨g1, 0, none⟩), .pointer (some ⟨g2, 0, none⟩)] w fun e w' => e = .returned (.bool (decide (t < l0[i].f0))) ∧ Below w.heap.size w w' := by
  obtain ⟨ai, ei, y0, y1⟩ := at_T29 hr0 (i : Nat) (by omega) (by omega)
  cases ei
  obtain ⟨xi, hxi⟩ : ∃ x, x = rd_T29 l0 (i : Nat) := ⟨_, rfl⟩
  rw [show l0[i].f0 = xi.f0 from by rw [hxi]; simp [rd_T29, hi]]
  rw [← hxi] at y0 y1
  simp only [Int.toNat_natCast] at y0 y1
  obtain ⟨n, hn⟩ : ∃ n, n = l0.length := ⟨_, rfl⟩
  rw [← hn] at h1 hi
  have z1 : (0 : Int) ≤ (i : Int) := by omega
  have z2 : (i : Int) < (n : Int) := by omega
  clear hn hxi hr0
  by_cases hlt : t < xi.f0
  · rw [decide_eq_true hlt]
    go_enter Try.func44, Try.ntmps44
    go_wp2
    go_quiet (fail)
    go_wp2
    go_ret
    exact ⟨rfl, pw_below_drewN (Below.refl _ _) _⟩
  · rw [decide_eq_false hlt]
    have hd : decide (t < xi.f0) = false := decide_eq_false hlt
    clear hlt
    go_enter Try.func44, Try.ntmps44
    go_wp2
    go_quiet (fail)
    go_wp2
    go_ret
    exact ⟨rfl, pw_below_drewN (Below.refl _ _) _⟩

set_option maxHeartbeats 1000000 in
theorem pick_upto.calls (A0 : Option Addr) (c0 : Nat) (l0 : List S29) (a1 : Int) (r : Int) (w : World) (hr0 : Kd.C k29 w A0 l0.length l0) (hc0 : l0.length ≤ c0) (h : pick_upto.f l0 a1 = some r) :
    Calls Try.prog 35 #[.slice A0 l0.length c0, .int .i64 a1] w fun e w' => e = .returned (.int .i64 r) ∧ Below w.heap.size w w' := by
  unfold pick_upto.f at h
  split at h
  · rename_i hu
    obtain ⟨hu, hb⟩ := hu
    obtain rfl := Option.some.inj h
    have eg : ∀ args w, (callFunc 44 args).run Try.prog w = .ok (.enter 44 args) w := Go.Proofs.enters_of Try.func44 (by kernel_rfl) rfl
    have hcall : Calls Try.prog 43 #[.int .i64 l0.length, .func (.func 44) #[] #[.pointer (some ⟨w.heap.size, 0, none⟩), .pointer (some ⟨w.heap.size + 1, 0, none⟩)]] ((w.alloc (.cells #[.slice A0 l0.length c0] 22)).alloc (.cells #[.int .i64 a1] 2)) fun e w' => e = .returned (.int .i64 (uptoN l0 a1)) ∧ Below (w.heap.size + 1 + 1) ((w.alloc (.cells #[.slice A0 l0.length c0] 22)).alloc (.cells #[.int .i64 a1] 2)) w' := by
      have := search_any 44 #[.pointer (some ⟨w.heap.size, 0, none⟩), .pointer (some ⟨w.heap.size + 1, 0, none⟩)] (w.heap.size + 1 + 1) _ _ (Below.refl (w.heap.size + 1 + 1) ((w.alloc (.cells #[.slice A0 l0.length c0] 22)).alloc (.cells #[.int .i64 a1] 2))) (by simp) l0.length (uptoN l0 a1) (upto_le _ _) hb eg ?_
      · simpa using this
      · intro i w1 hi hb1
        refine (upto1_any A0 c0 l0 a1 w.heap.size (w.heap.size + 1) w1 ?_ ?_ ?_ i hi).mono ?_
        · exact Kd.C_below (Kd.C_alloc (Kd.C_alloc hr0 _) _) (by simpa using hb1)
        · rw [hb1.cell (p := ⟨w.heap.size, 0, none⟩) (by simp; omega)]; go_simp
        · rw [hb1.cell (p := ⟨w.heap.size + 1, 0, none⟩) (by simp)]; go_simp
        · rintro e w' ⟨rfl, hb2⟩
          refine ⟨?_, hb2⟩
          rw [decide_eq_decide.2 (upto_gt l0 a1 i hi hu)]
    have HC := Aside0.mk hcall
    clear hcall hr0 hc0 h hu
    go_enter Try.func35, Try.ntmps35
    go_wp2_with (go_at_call 43; refine HC.out.mono ?_; rintro e w' ⟨rfl, hb'⟩)
    go_ret
    exact ⟨rfl, below_then (below_alloc (below_alloc (Below.refl _ _) _) _) (by simp; omega) (by simpa using hb')⟩
  · cases h

end Go.Proofs.Ytlnhecplmppldaa.Pr
