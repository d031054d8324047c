/- Texts of this session, cut down to what one claim needs and joined: LexAw, LexR, LexP1, LexP2. -/
import Derived.Test.YtjleceekccehoaaGreatDoorQGJ19
import Derived.Test.YtjleceekccehoaaGreatDoorQGJ20
import Derived.BigQuiet
import Derived.Test.YtjleceekccehoaaGreatDoorQLexR0
section
set_option linter.unusedVariables false
set_option linter.unusedSimpArgs false
namespace Go.Proofs.YtjleceekccehoaaGreatDoor.Pr
open Go.RowKit Go.Proofs.YtjleceekccehoaaGreatDoorW.PrintWords Go.Proofs.YtjleceekccehoaaGreatDoorW.PrintLast Go.Proofs.YtjleceekccehoaaGreatDoorW.PrintMore

/-- All that layer 8's laws ask of the package-level variables. -/
structure LaidW (w : World) : Prop where
  t : LaidT8 w
  e : LaidE w
theorem LaidW.below {w w' : World} (h : LaidW w) (hb : Below w.heap.size w w') : LaidW w' := ⟨h.t.below hb, h.e.below hb⟩
def aw1 : List UInt8 := [114, 97, 116, 101, 40, 120, 91, 53, 109, 93, 41]
def aw2 : List UInt8 := [97, 32, 33, 32, 98]
def toks1 : List Tok := [⟨1, 0, bs [114, 97, 116, 101]⟩, ⟨5, 4, bs [40]⟩, ⟨1, 5, bs [120]⟩, ⟨5, 6, bs [91]⟩, ⟨3, 7, bs [53, 109]⟩, ⟨5, 9, bs [93]⟩, ⟨5, 10, bs [41]⟩]
theorem aw1_lex : lexS 0 aw1 = .ok toks1 := by kernel_rfl
theorem aw2_lex : lexS 0 aw2 = .error 2 := by kernel_rfl
set_option maxHeartbeats 4000000 in
set_option maxRecDepth 100000 in
theorem awake8_any (w : World) (hX : LaidW w) : Calls Tryz.prog 17 #[] w fun e w' => e = .returned (.bool true) ∧ Below w.heap.size w w' := by
  have HX := Aside0.mk hX
  have H1 : Aside0 (∀ W, LaidT8 W → Calls Tryz.prog 18 #[.string ⟨#[114, 97, 116, 101, 40, 120, 91, 53, 109, 93, 41]⟩] W fun e w' => (∃ v, e = .returned (.tuple #[v, .nilIface]) ∧ Kd.R k41 41 w' W.heap.size (fun _ => True) v toks1) ∧ Below W.heap.size W w') := ⟨fun W h => by have h1 := lex_any aw1 (by decide) W h; rw [aw1_lex] at h1; exact h1⟩
  have H2 : Aside0 (∀ W, LaidT8 W → Calls Tryz.prog 18 #[.string ⟨#[97, 32, 33, 32, 98]⟩] W fun e w' => (∃ g, e = .returned (.tuple #[.slice none 0 0, .iface 61 (.pointer (some ⟨g, 0, none⟩))]) ∧ W.heap.size ≤ g ∧ w'.heap[g]? = some (.cells #[.int .i64 (2 : Nat), .iface 55 (.int .i64 5)] 63 (0, 0))) ∧ Below W.heap.size W w') := ⟨fun W h => by have h1 := lex_any aw2 (by decide) W h; rw [aw2_lex] at h1; exact h1⟩
  clear hX
  go_enter Tryz.func17, Tryz.ntmps17
  go_wp2_with fail
  refine (H1.out _ HX.out.t).mono ?_
  rintro e_ w1 ⟨⟨v, rfl, hr⟩, hb1⟩
  obtain ⟨A, c, rfl, hc, hC⟩ := Kd.R_reads hr
  have HC := Aside0.mk hC
  have HB1 := Aside0.mk hb1
  clear hr hC hb1
  go_wp2_with fail
  refine (H2.out _ (HX.out.t.below HB1.out)).mono ?_
  rintro e_ w2 ⟨⟨g, rfl, hg, hh⟩, hb2⟩
  have HB2 := Aside0.mk (below_step HB1.out hb2)
  have HC2 := Aside0.mk (Kd.C_below HC.out hb2)
  have HG0 : Aside0 (w2.cell? ⟨g, 0, none⟩ = some (.int .i64 2)) := ⟨(blk_cell hh 0).trans rfl⟩
  have HG1 : Aside0 (w2.cell? ⟨g, 1, none⟩ = some (.iface 55 (.int .i64 5))) := ⟨(blk_cell hh 1).trans rfl⟩
  obtain ⟨ad, hA, k0, k1, k2⟩ := at_T41 HC2.out 4 (by decide) (by decide)
  rw [show rd_T41 toks1 4 = ⟨3, 7, bs [53, 109]⟩ from by kernel_rfl] at k0 k1 k2
  have hlen : toks1.length = 7 := by kernel_rfl
  simp only at k0 k1 k2
  change w2.cell? ⟨ad.block, ad.off + 12, _⟩ = _ at k0
  change w2.cell? ⟨ad.block, ad.off + 12 + 1, _⟩ = _ at k1
  change w2.cell? ⟨ad.block, ad.off + 12 + 2, _⟩ = _ at k2
  subst hA
  rw [hlen] at hc ⊢
  have hc2 : (7 : Int) ≤ (c : Int) := by omega
  have e41 := eqA41
  have ht : ((bs [53, 109]).toList == [53, 109]) = true := by rw [Lib.toList_data]; rfl
  clear hb2 hg hh HC
  go_wp2_with (go_at_call 21; refine (Fault_hit 5 (by decide) 2 g _ (HX.out.e.below HB2.out) HG0.out HG1.out).mono ?_; rintro e_ w3 ⟨rfl, hb3⟩)
  go_ret
  exact ⟨by first | rfl | simp, below_step HB2.out hb3⟩
end Go.Proofs.YtjleceekccehoaaGreatDoor.Pr
end

section
set_option linter.unusedVariables false
set_option linter.unusedSimpArgs false
namespace Go.Proofs.YtjleceekccehoaaGreatDoor.Pr
open Go.ChangeShapes Go.WideShapes Go.ChangeAt Go.RowKit

theorem laidW_of {W : World} (h : laidMetH Tryz.prog laid8 W) : LaidW W :=
  have hl := laidL_of h
  ⟨⟨⟨laidN_of hl, errs_of hl, laidU_of h⟩, laidV8_of hl, laidB_of h⟩, laidE_of hl⟩
theorem handleFilter8 : (laid8.filter fun x => x.2.handleName?.isSome) = [("errors.errorType", Rows.laid_errors_errorType)] := by kernel_rfl
def plain8 : List (String × DataW Unit) := laid8.filter fun x => x.2.handleName?.isNone
noncomputable def laidWorld8 (os : Os) : World := (errWorld os).layVars Tryz.prog plain8
theorem laidWorld8_os (os : Os) : (laidWorld8 os).os = os := by
  unfold laidWorld8
  rw [World.layVars_os]; rfl
set_option maxRecDepth 100000 in
theorem laidWorld8_plain (os : Os) (args : Array Value) : laidMet Tryz.prog plain8 ((laidWorld8 os).forCall (fun _ _ => 0) ⟨#[], args, []⟩).memory := by
  have e1 : (plain8.filter fun x => (plain8.map (·.1)).contains x.1) = plain8 := List.filter_eq_self.2 fun x hx => List.contains_iff_mem.2 (List.mem_map.2 ⟨x, hx, rfl⟩)
  have e2 : (plain8.filter fun x => !(plain8.map (·.1)).contains x.1) = [] := List.filter_eq_nil_iff.2 fun x hx => by rw [List.contains_iff_mem.2 (List.mem_map.2 ⟨x, hx, rfl⟩)]; simp
  have h : laidMet Tryz.prog plain8 (laidWorld8 os) := laidMet_layVars (w0 := errWorld os) (plain8.map (·.1)) [] (by rw [e1]; rfl) (by rw [e1]; kernel_rfl) (by rw [e1]; kernel_rfl) (by rw [e2]; exact LaidIn.none)
  exact h.of_heap (by simp [World.memory, World.forCall, Input.heap])
set_option maxRecDepth 100000 in
theorem laidWorld8_met (os : Os) (args : Array Value) : laidMetH Tryz.prog laid8 ((laidWorld8 os).forCall (fun _ _ => 0) ⟨#[], args, []⟩).memory :=
  laidMetH_of_parts (laidWorld8_plain os args) (by rw [handleFilter8]; kernel_rfl)
end Go.Proofs.YtjleceekccehoaaGreatDoor.Pr
end

section
set_option linter.unusedVariables false
set_option linter.unusedSimpArgs false
namespace Go.Proofs.YtjleceekccehoaaGreatDoor.Pr
open Go.RowKit

/-- v' may stand in v's place behind a token. -/
def Fit (v v' : List UInt8) : Prop := v' = [] ∨ ∃ c w, v' = c :: w ∧ (isBlk c.toNat = true ∨ ∃ w0, v = c :: w0)
theorem blk_cases {z : Nat} (h : isBlk z = true) : z = 32 ∨ z = 9 ∨ z = 10 ∨ z = 13 := by
  unfold isBlk at h
  simp only [Bool.or_eq_true, beq_iff_eq] at h
  omega
theorem blk_let {z : Nat} (h : isBlk z = true) : isLet z = false ∧ isDig z = false ∧ (z == 46) = false ∧ isSg z = false ∧ z ≠ 35 := by
  rcases blk_cases h with rfl | rfl | rfl | rfl <;> decide
/-- A run that ends at u's end goes on nowhere where v' fits. -/
theorem run_app (p : Nat → Bool) (hp : ∀ z, isBlk z = true → p z = false) : ∀ (u v v' : List UInt8), Fit v v' → run p (u ++ v) = u.length → run p (u ++ v') = u.length := by
  intro u
  induction u with
  | nil =>
    intro v v' hf h
    rcases hf with rfl | ⟨c, w, rfl, hb | ⟨w0, rfl⟩⟩
    · rfl
    · show run p (c :: w) = 0
      rw [run, if_neg (by rw [hp _ hb]; simp)]
    · have h' : run p (c :: w0) = 0 := h
      show run p (c :: w) = 0
      rw [run] at h' ⊢
      split at h'
      · omega
      · rename_i hc; rw [if_neg hc]
  | cons c r ih =>
    intro v v' hf h
    have h1 : run p (c :: (r ++ v)) = r.length + 1 := h
    show run p (c :: (r ++ v')) = r.length + 1
    rw [run] at h1 ⊢
    split at h1
    · rename_i hc
      rw [if_pos hc, ih v v' hf (by omega)]
    · omega
theorem runS_app : ∀ (u v v' : List UInt8) (pl : Bool) (was : Nat), Fit v v' → runS pl was (u ++ v) = u.length → runS pl was (u ++ v') = u.length := by
  intro u
  induction u with
  | nil =>
    intro v v' pl was hf h
    rcases hf with rfl | ⟨c, w, rfl, hb | ⟨w0, rfl⟩⟩
    · rfl
    · show runS pl was (c :: w) = 0
      have := blk_let hb
      rw [runS, if_neg (by unfold okS; rw [this.1, this.2.1, this.2.2.1, this.2.2.2.1]; simp)]
    · have h' : runS pl was (c :: w0) = 0 := h
      show runS pl was (c :: w) = 0
      rw [runS] at h' ⊢
      split at h'
      · omega
      · rename_i hc; rw [if_neg hc]
  | cons c r ih =>
    intro v v' pl was hf h
    have h1 : runS pl was (c :: (r ++ v)) = r.length + 1 := h
    show runS pl was (c :: (r ++ v')) = r.length + 1
    rw [runS] at h1 ⊢
    split at h1
    · rename_i hc
      rw [if_pos hc, ih v v' _ _ hf (by omega)]
    · omega
theorem quotR_app : ∀ (n : Nat) (r v v' out o2 r2 : List UInt8), r.length ≤ n → quotR (r ++ v) out = some (o2, v) → r2 = v → quotR (r ++ v') out = some (o2, v') := by
  intro n
  induction n with
  | zero =>
    intro r v v' out o2 r2 hn h _
    have : r = [] := List.length_eq_zero_iff.1 (by omega)
    subst this
    have := quotR_len _ v out o2 v (Nat.le_refl _) h
    omega
  | succ n ih =>
    intro r v v' out o2 r2 hn h hr
    cases r with
    | nil =>
      have := quotR_len _ v out o2 v (Nat.le_refl _) h
      omega
    | cons c r =>
      simp only [List.length_cons] at hn
      rw [List.cons_append, quotR_cons] at h ⊢
      split at h
      · rename_i h34
        rw [if_pos h34]
        simp only [Option.some.injEq, Prod.mk.injEq] at h
        have hr0 : r = [] := by
          have := congrArg List.length h.2
          rw [List.length_append] at this
          exact List.length_eq_zero_iff.1 (by omega)
        subst hr0
        rw [h.1]; rfl
      · rename_i h34
        rw [if_neg h34]
        split at h
        · cases h
        · rename_i h10
          rw [if_neg h10]
          split at h
          · rename_i h92
            rw [if_pos h92]
            cases r with
            | nil =>
              simp only [List.nil_append] at h
              cases v with
              | nil => cases h
              | cons d v1 =>
                simp only at h
                exfalso
                split at h
                · have := quotR_len _ v1 _ o2 _ (Nat.le_refl _) h; simp at this; omega
                · split at h
                  · have := quotR_len _ v1 _ o2 _ (Nat.le_refl _) h; simp at this; omega
                  · cases h
            | cons d r3 =>
              simp only [List.length_cons] at hn
              simp only [List.cons_append] at h ⊢
              split at h
              · rename_i hd
                rw [if_pos hd]
                exact ih r3 v v' _ o2 v (by omega) h rfl
              · rename_i hd
                rw [if_neg hd]
                split at h
                · rename_i hd2
                  rw [if_pos hd2]
                  exact ih r3 v v' _ o2 v (by omega) h rfl
                · cases h
          · rename_i h92
            rw [if_neg h92]
            exact ih r v v' _ o2 v (by omega) h rfl
/-- What quotR leaves is the end of what it was given. -/
theorem quotR_suf : ∀ (n : Nat) (r out o2 r2 : List UInt8), r.length ≤ n → quotR r out = some (o2, r2) → ∃ u, r = u ++ r2 := by
  intro n
  induction n with
  | zero => intro r out o2 r2 hn h; have : r = [] := List.length_eq_zero_iff.1 (by omega); subst this; cases h
  | succ n ih =>
    intro r out o2 r2 hn h
    cases r with
    | nil => cases h
    | cons c r =>
      rw [quotR_cons] at h
      simp only [List.length_cons] at hn
      split at h
      · simp only [Option.some.injEq, Prod.mk.injEq] at h; exact ⟨[c], by rw [← h.2]; rfl⟩
      · split at h
        · cases h
        · split at h
          · cases r with
            | nil => cases h
            | cons d r3 =>
              simp only [List.length_cons] at hn
              simp only at h
              split at h
              · obtain ⟨u, hu⟩ := ih r3 _ o2 r2 (by omega) h; exact ⟨c :: d :: u, by rw [hu]; rfl⟩
              · split at h
                · obtain ⟨u, hu⟩ := ih r3 _ o2 r2 (by omega) h; exact ⟨c :: d :: u, by rw [hu]; rfl⟩
                · cases h
          · obtain ⟨u, hu⟩ := ih r _ o2 r2 (by omega) h; exact ⟨c :: u, by rw [hu]; rfl⟩
end Go.Proofs.YtjleceekccehoaaGreatDoor.Pr
end

section
set_option linter.unusedVariables false
set_option linter.unusedSimpArgs false
namespace Go.Proofs.YtjleceekccehoaaGreatDoor.Pr
open Go.RowKit

theorem wordT_cons (c : UInt8) (r : List UInt8) : wordT (c :: r) = if isLet c.toNat = true then some (1, (c :: r).take (run (fun z => isLet z || isDig z) (c :: r)), run (fun z => isLet z || isDig z) (c :: r)) else none := by
  unfold wordT
  simp only
  by_cases h : isLet c.toNat = true
  · rw [if_pos h, if_pos h, show wordV (c :: r) = run (fun z => isLet z || isDig z) (c :: r) from if_pos h]
  · rw [if_neg h, if_neg h]
theorem word_swap {c : UInt8} {r v v' t : List UInt8} {k : Nat} (h : wordT (c :: r ++ v) = some (k, t, (c :: r).length)) (hf : Fit v v') : wordT (c :: r ++ v') = some (k, t, (c :: r).length) := by
  rw [List.cons_append, wordT_cons] at h ⊢
  by_cases hl : isLet c.toNat = true
  · rw [if_pos hl] at h ⊢
    simp only [Option.some.injEq, Prod.mk.injEq] at h
    have h2 := run_app (fun z => isLet z || isDig z) (fun z hz => by have := blk_let hz; simp [this.1, this.2.1]) (c :: r) v v' hf h.2.2
    have h3 : run (fun z => isLet z || isDig z) (c :: (r ++ v')) = (c :: r).length := h2
    have h4 := h.2.1
    rw [h.2.2] at h4
    have e1 : (c :: (r ++ v)).take (c :: r).length = c :: r := by rw [← List.cons_append]; simp
    have e2 : (c :: (r ++ v')).take (c :: r).length = c :: r := by rw [← List.cons_append]; simp
    rw [h3, e2, ← h4, e1, h.1]
  · rw [if_neg hl] at h; cases h
theorem word_none {c : UInt8} {r r' : List UInt8} (h : wordT (c :: r) = none) : wordT (c :: r') = none := by
  rw [wordT_cons] at h ⊢
  by_cases hl : isLet c.toNat = true
  · rw [if_pos hl] at h; cases h
  · rw [if_neg hl]
theorem isNum0_cons (c : UInt8) (r : List UInt8) : isNum0 (c :: r) = (isDig c.toNat || (c.toNat == 46 && (match r with | [] => false | d :: _ => isDig d.toNat))) := rfl
theorem num_swap {c : UInt8} {r v v' t : List UInt8} {k : Nat} (h : numT (c :: r ++ v) = some (k, t, (c :: r).length)) (hf : Fit v v') : numT (c :: r ++ v') = some (k, t, (c :: r).length) := by
  unfold numT at h ⊢
  by_cases h0 : isNum0 (c :: r ++ v) = true
  · rw [if_pos h0] at h
    split at h
    · cases h
    · rename_i hk
      simp only [Option.some.injEq, Prod.mk.injEq] at h
      have hrl : runS true 0 (c :: r ++ v) = (c :: r).length := by
        have h1 := h.2.2
        unfold numTx at h1
        rw [List.length_take] at h1
        have := runS_le (c :: r ++ v) true 0
        omega
      have hr2 := runS_app (c :: r) v v' true 0 hf hrl
      have e1 : numTx (c :: r ++ v) = c :: r := by unfold numTx; rw [hrl]; simp
      have e2 : numTx (c :: r ++ v') = c :: r := by unfold numTx; rw [hr2]; simp
      have h0' : isNum0 (c :: r ++ v') = true := by
        rw [List.cons_append, isNum0_cons] at h0 ⊢
        by_cases hd : isDig c.toNat = true
        · rw [hd]; rfl
        · cases r with
          | cons d r1 => exact h0
          | nil =>
            exfalso
            have hd0 : isDig c.toNat = false := Bool.eq_false_iff.2 hd
            rw [hd0, Bool.false_or, Bool.and_eq_true] at h0
            cases v with
            | nil => exact absurd h0.2 (by simp)
            | cons d v1 =>
              have hdd : isDig d.toNat = true := h0.2
              have h46 : c.toNat = 46 := by simpa using h0.1
              have h1 : runS true 0 (c :: d :: v1) = 1 := hrl
              rw [runS, if_pos (ok0 (Or.inr h46)), runS, if_pos (by unfold okS; rw [hdd]; simp)] at h1
              omega
      rw [if_pos h0', e2]
      rw [e1] at h hk
      rw [if_neg hk, h.1, h.2.1]
  · rw [if_neg h0] at h; cases h
theorem num_none {c : UInt8} {r : List UInt8} (h1 : isDig c.toNat = false) (h2 : c.toNat ≠ 46) : numT (c :: r) = none := by
  unfold numT
  rw [isNum0_cons, h1, beq_eq_false_iff_ne.2 h2]
  rfl
theorem quotV_cons (c : UInt8) (r : List UInt8) : quotV (c :: r) = if c.toNat = 34 then quotT (r.length + 1) (quotR r []) else none := rfl
theorem quot_first {c : UInt8} {r : List UInt8} {x : Nat × List UInt8 × Nat} (h : quotV (c :: r) = some x) : c.toNat = 34 := by
  rw [quotV_cons] at h
  by_cases hc : c.toNat = 34
  · exact hc
  · rw [if_neg hc] at h; cases h
theorem quot_swap {c : UInt8} {r v v' t : List UInt8} {k : Nat} (h : quotV (c :: r ++ v) = some (k, t, (c :: r).length)) : quotV (c :: r ++ v') = some (k, t, (c :: r).length) := by
  have h34 := quot_first h
  rw [List.cons_append, quotV_cons, if_pos h34] at h ⊢
  cases hq : quotR (r ++ v) [] with
  | none => rw [hq] at h; cases h
  | some x =>
    obtain ⟨o2, r2⟩ := x
    rw [hq] at h
    unfold quotT at h
    simp only at h
    split at h
    · rename_i hv
      simp only [Option.some.injEq, Prod.mk.injEq, List.length_append, List.length_cons] at h
      obtain ⟨w, hw⟩ := quotR_suf _ _ _ _ _ (Nat.le_refl _) hq
      have hlen := congrArg List.length hw
      rw [List.length_append, List.length_append] at hlen
      have hr2 : r2 = v := by
        have e : w.length = r.length := by omega
        have := congrArg (List.drop r.length) hw
        rw [List.drop_left' rfl, List.drop_left' e] at this
        exact this.symm
      subst hr2
      rw [quotR_app _ r r2 v' [] o2 r2 (Nat.le_refl _) hq rfl]
      unfold quotT
      simp only
      rw [if_pos hv]
      simp only [List.length_append, List.length_cons, Option.some.injEq, Prod.mk.injEq]
      exact ⟨h.1, h.2.1, by omega⟩
    · cases h
theorem find_mono {α : Type} (p1 p2 : α → Bool) : ∀ (l : List α) (x : α), (∀ y ∈ l, p1 y = true → p2 y = true) → p1 x = true → l.find? p2 = some x → l.find? p1 = some x := by
  intro l
  induction l with
  | nil => intro x _ _ h; cases h
  | cons y l ih =>
    intro x hm hx h
    by_cases h2 : p2 y = true
    · rw [List.find?_cons_of_pos h2] at h
      have : y = x := Option.some.inj h
      subst this
      rw [List.find?_cons_of_pos hx]
    · rw [List.find?_cons_of_neg h2] at h
      have h1 : ¬ p1 y = true := fun hy => h2 (hm y List.mem_cons_self hy)
      rw [List.find?_cons_of_neg h1]
      exact ih x (fun z hz => hm z (List.mem_cons_of_mem _ hz)) hx h
theorem signs_shape : ∀ q ∈ signs, (∃ a, q = [a]) ∨ ∃ a b, q = [a, b] ∧ isBlk b.toNat = false := by
  intro q hq
  have h : signs.all (fun q => match q with | [_] => true | [_, b] => !isBlk b.toNat | _ => false) = true := by decide
  have h1 := List.all_eq_true.1 h q hq
  match q, h1 with
  | [a], _ => exact Or.inl ⟨a, rfl⟩
  | [a, b], h1 => exact Or.inr ⟨a, b, rfl, by simpa using h1⟩
theorem signs_first : ∀ q ∈ signs, ∀ c r, q = c :: r → isDig c.toNat = false ∧ c.toNat ≠ 46 ∧ c.toNat ≠ 34 ∧ isLet c.toNat = false := by
  intro q hq c r hc
  have h : signs.all (fun q => match q with | c :: _ => !isDig c.toNat && c.toNat != 46 && c.toNat != 34 && !isLet c.toNat | [] => false) = true := by decide
  have h1 := List.all_eq_true.1 h q hq
  subst hc
  simp at h1
  exact ⟨h1.1.1.1, h1.1.1.2, h1.1.2, h1.2⟩
theorem pre_iff (s p : List UInt8) : Lib.hasPrefix s p = true ↔ ∃ w, s = p ++ w := by
  unfold Lib.hasPrefix
  rw [List.isPrefixOf_iff_prefix]
  exact ⟨fun ⟨w, hw⟩ => ⟨w, hw.symm⟩, fun ⟨w, hw⟩ => ⟨w, hw.symm⟩⟩
theorem sign_swap {u v v' t : List UInt8} {k : Nat} (h : signV (u ++ v) = some (k, t, u.length)) (hf : Fit v v') : u ∈ signs ∧ signV (u ++ v') = some (k, t, u.length) := by
  unfold signV at h ⊢
  cases hq : signs.find? (fun p => Lib.hasPrefix (u ++ v) p) with
  | none => rw [hq] at h; cases h
  | some p =>
    rw [hq] at h
    simp only [Option.some.injEq, Prod.mk.injEq] at h
    have hp : Lib.hasPrefix (u ++ v) p = true := List.find?_some (p := fun p => Lib.hasPrefix (u ++ v) p) hq
    have hm := List.mem_of_find?_eq_some hq
    obtain ⟨w, hw⟩ := (pre_iff _ _).1 hp
    have hpu : p = u := by
      have e := congrArg (List.take p.length) hw
      rw [List.take_left' rfl, h.2.2, List.take_left' rfl] at e
      exact e.symm
    subst hpu
    refine ⟨hm, ?_⟩
    rw [find_mono (fun q => Lib.hasPrefix (p ++ v') q) (fun q => Lib.hasPrefix (p ++ v) q) signs p ?_ ((pre_iff _ _).2 ⟨v', rfl⟩) hq]
    · show (some (5, p, p.length) : Tk) = some (k, t, p.length)
      rw [← h.1, ← h.2.1]
    · intro q hqm hq1
      obtain ⟨w1, hw1⟩ := (pre_iff _ _).1 hq1
      refine (pre_iff _ _).2 ?_
      rcases signs_shape p hm with ⟨a, rfl⟩ | ⟨a, b, rfl, _⟩
      · rcases signs_shape q hqm with ⟨a1, rfl⟩ | ⟨a1, b1, rfl, hb1⟩
        · simp at hw1; exact ⟨v, by rw [hw1.1]⟩
        · rcases hf with rfl | ⟨c, w2, rfl, hb | ⟨w0, rfl⟩⟩
          · simp at hw1
          · simp at hw1; rw [hw1.2.1, hb1] at hb; cases hb
          · simp at hw1; exact ⟨w0, by rw [hw1.1, hw1.2.1]; rfl⟩
      · rcases signs_shape q hqm with ⟨a1, rfl⟩ | ⟨a1, b1, rfl, hb1⟩
        · simp at hw1; exact ⟨b :: v, by first | (rw [hw1.1]; done) | (rw [hw1.1]; rfl)⟩
        · simp at hw1; exact ⟨v, by first | (rw [hw1.1, hw1.2.1]; done) | (rw [hw1.1, hw1.2.1]; rfl)⟩
/-- A token is the same whatever fit stands behind it. -/
theorem tok_swap {u v v' t : List UInt8} {k : Nat} (h : tokAt (u ++ v) = some (k, t, u.length)) (hf : Fit v v') : tokAt (u ++ v') = some (k, t, u.length) := by
  have hp := tok_pos h
  cases u with
  | nil => exact absurd hp (by simp)
  | cons c r =>
    unfold tokAt at h ⊢
    cases h1 : wordT (c :: r ++ v) with
    | some x =>
      rw [h1] at h
      rw [word_swap (h1.trans h) hf]
    | none =>
      rw [h1] at h
      rw [show wordT (c :: r ++ v') = none from word_none h1]
      cases h2 : numT (c :: r ++ v) with
      | some x =>
        rw [h2] at h
        rw [num_swap (h2.trans h) hf]
      | none =>
        rw [h2] at h
        cases h3 : quotV (c :: r ++ v) with
        | some x =>
          rw [h3] at h
          have h34 := quot_first h3
          rw [show numT (c :: r ++ v') = none from num_none (by rw [h34]; decide) (by omega), quot_swap (h3.trans h)]
        | none =>
          rw [h3] at h
          obtain ⟨hm, hs⟩ := sign_swap h hf
          obtain ⟨a1, a2, a3, a4⟩ := signs_first _ hm c r rfl
          rw [show numT (c :: r ++ v') = none from num_none a1 a2, show quotV (c :: r ++ v') = none from if_neg a3]
          exact hs
end Go.Proofs.YtjleceekccehoaaGreatDoor.Pr
end
