/- Texts of this session, cut down to what one claim needs and joined: LexL0, LexL. -/
import Derived.Test.YtjleceekccehoaaGreatDoorQGJ18
import Derived.RegionTactic
section
set_option linter.unusedVariables false
set_option linter.unusedSimpArgs false
namespace Go.Proofs.YtjleceekccehoaaGreatDoor.Pr
open Go.RowKit Go.Proofs.YtjleceekccehoaaGreatDoorW.PrintWords Go.Proofs.YtjleceekccehoaaGreatDoorW.PrintLast Go.Proofs.YtjleceekccehoaaGreatDoorW.PrintMore

abbrev Tok := S41
/-- The tokens of what stands at place i, or the place of what is none. -/
def lexL : Nat → Nat → List UInt8 → Except Nat (List Tok)
  | 0, _, _ => .ok []
  | f + 1, i, s => if s = [] then .ok [] else if blankV s = 0 then (match tokAt s with
      | none => .error i
      | some (k, t, n) => match lexL f (i + n) (s.drop n) with | .ok l => .ok (⟨(k : Nat), (i : Nat), bs t⟩ :: l) | .error e => .error e)
    else lexL f (i + blankV s) (s.drop (blankV s))
def lexS (i : Nat) (s : List UInt8) : Except Nat (List Tok) := lexL s.length i s
def lexCat (out : List Tok) : Except Nat (List Tok) → Except Nat (List Tok) | .ok l => .ok (out ++ l) | .error e => .error e
theorem tok_pos {s t : List UInt8} {k n : Nat} (h : tokAt s = some (k, t, n)) : 0 < n := by
  unfold tokAt at h
  cases h1 : wordT s with
  | some x => rw [h1] at h; exact word_pos (h1.trans h)
  | none =>
    rw [h1] at h
    cases h2 : numT s with
    | some x => rw [h2] at h; exact num_pos (h2.trans h)
    | none =>
      rw [h2] at h
      cases h3 : quotV s with
      | some x => rw [h3] at h; exact quot_pos (h3.trans h)
      | none => rw [h3] at h; exact sign_pos h
theorem lexL_fuel : ∀ (f f' i : Nat) (s : List UInt8), s.length ≤ f → s.length ≤ f' → lexL f i s = lexL f' i s := by
  intro f
  induction f with
  | zero =>
    intro f' i s h _
    have : s = [] := List.length_eq_zero_iff.1 (by omega)
    subst this
    cases f' with
    | zero => rfl
    | succ f' => rfl
  | succ f ih =>
    intro f' i s h h'
    cases f' with
    | zero =>
      have : s = [] := List.length_eq_zero_iff.1 (by omega)
      subst this
      rfl
    | succ f' =>
      unfold lexL
      by_cases h0 : s = []
      · rw [if_pos h0, if_pos h0]
      · rw [if_neg h0, if_neg h0]
        have hp : 0 < s.length := List.length_pos_iff.2 h0
        by_cases hb : blankV s = 0
        · rw [if_pos hb, if_pos hb]
          cases ht : tokAt s with
          | none => rfl
          | some x =>
            obtain ⟨k, t, n⟩ := x
            have hn := tok_pos ht
            simp only
            rw [ih f' (i + n) (s.drop n) (by rw [List.length_drop]; omega) (by rw [List.length_drop]; omega)]
        · rw [if_neg hb, if_neg hb]
          exact ih f' _ _ (by rw [List.length_drop]; omega) (by rw [List.length_drop]; omega)
theorem lexS_blank (i : Nat) (c : UInt8) (r : List UInt8) (hb : blankV (c :: r) ≠ 0) : lexS i (c :: r) = lexS (i + blankV (c :: r)) ((c :: r).drop (blankV (c :: r))) := by
  unfold lexS
  rw [List.length_cons, lexL, if_neg (by simp), if_neg hb]
  exact lexL_fuel _ _ _ _ (by rw [List.length_drop, List.length_cons]; omega) (by omega)
theorem lexS_none (i : Nat) (c : UInt8) (r : List UInt8) (hb : blankV (c :: r) = 0) (ht : tokAt (c :: r) = none) : lexS i (c :: r) = .error i := by
  unfold lexS
  rw [List.length_cons, lexL, if_neg (by simp), if_pos hb, ht]
theorem lexS_some (i : Nat) (c : UInt8) (r : List UInt8) (hb : blankV (c :: r) = 0) (k : Nat) (t : List UInt8) (n : Nat) (ht : tokAt (c :: r) = some (k, t, n)) : lexS i (c :: r) = lexCat [⟨(k : Nat), (i : Nat), bs t⟩] (lexS (i + n) ((c :: r).drop n)) := by
  have hn := tok_pos ht
  unfold lexS
  rw [List.length_cons, lexL, if_neg (by simp), if_pos hb, ht]
  simp only
  rw [lexL_fuel r.length ((c :: r).drop n).length _ _ (by rw [List.length_drop, List.length_cons]; omega) (by omega)]
  cases lexL ((c :: r).drop n).length (i + n) ((c :: r).drop n) <;> rfl
theorem lexCat_C (a b : List Tok) (r : Except Nat (List Tok)) : lexCat a (lexCat b r) = lexCat (a ++ b) r := by
  cases r <;> simp [lexCat]
theorem lexCat_nil (r : Except Nat (List Tok)) : lexCat [] r = r := by cases r <;> simp [lexCat]
theorem blankV_le (s : List UInt8) : blankV s ≤ s.length := by
  unfold blankV
  split
  · cases s with
    | nil => exact Nat.le_refl _
    | cons c r =>
      simp only
      split
      · exact run_le _ _
      · exact Nat.zero_le _
  · exact run_le _ _
/-- A token lies within what is left. -/
theorem tok_le {s t : List UInt8} {k n : Nat} (h : tokAt s = some (k, t, n)) : n ≤ s.length := by
  unfold tokAt at h
  cases h1 : wordT s with
  | some x =>
    rw [h1] at h
    have h := h1.trans h
    cases s with
    | nil => cases h
    | cons c r =>
      unfold wordT at h
      by_cases hl : isLet c.toNat = true
      · simp only [if_pos hl, Option.some.injEq, Prod.mk.injEq] at h
        rw [← h.2.2]
        have : wordV (c :: r) = run (fun z => isLet z || isDig z) (c :: r) := if_pos hl
        rw [this]; exact run_le _ _
      · simp only [if_neg hl] at h; cases h
  | none =>
    rw [h1] at h
    cases h2 : numT s with
    | some x =>
      rw [h2] at h
      have h := h2.trans h
      unfold numT at h
      split at h
      · split at h
        · cases h
        · simp only [Option.some.injEq, Prod.mk.injEq] at h
          rw [← h.2.2]; exact numTx_le s
      · cases h
    | none =>
      rw [h2] at h
      cases h3 : quotV s with
      | some x =>
        rw [h3] at h
        have h := h3.trans h
        cases s with
        | nil => cases h
        | cons c r =>
          unfold quotV at h
          simp only at h
          split at h
          · cases hq : quotR r [] with
            | none => rw [hq] at h; cases h
            | some x =>
              obtain ⟨o2, r2⟩ := x
              rw [hq] at h
              unfold quotT at h
              simp only at h
              split at h
              · simp only [Option.some.injEq, Prod.mk.injEq] at h
                omega
              · cases h
          · cases h
      | none =>
        rw [h3] at h
        unfold signV at h
        cases hf : signs.find? (fun p => Lib.hasPrefix s p) with
        | none => rw [hf] at h; cases h
        | some p =>
          rw [hf] at h
          simp only [Option.some.injEq, Prod.mk.injEq] at h
          have hp : Lib.hasPrefix s p = true := List.find?_some (p := fun p => Lib.hasPrefix s p) hf
          rw [← h.2.2]
          unfold Lib.hasPrefix at hp
          simp at hp
          exact hp.length_le
end Go.Proofs.YtjleceekccehoaaGreatDoor.Pr
end

section
set_option linter.unusedVariables false
set_option linter.unusedSimpArgs false
namespace Go.Proofs.YtjleceekccehoaaGreatDoor.Pr
open Go.RowKit Go.Proofs.YtjleceekccehoaaGreatDoorW.PrintWords Go.Proofs.YtjleceekccehoaaGreatDoorW.PrintLast Go.Proofs.YtjleceekccehoaaGreatDoorW.PrintMore

/-- Lex's own blocks: its rest, its row of tokens. -/
structure LxB (w0 w : World) (l : List UInt8) (i : Nat) (v : Value) (out : List Tok) : Prop where
  r : RBox w0 w w0.heap.size l i
  row : Kd.R k41 41 w w0.heap.size (fun _ => True) v out
theorem info41 : (Tryz.prog.info? 41).map (fun i => (i.zero, i.size, i.bytes)) = some (some (.agg #[.int .i64 0, .int .i64 0, .string ⟨#[]⟩]), 3, 32) := by kernel_rfl
section
variable {w0 W W' : World} {l : List UInt8} {i : Nat} {v : Value} {out : List Tok}
theorem LxB.new (w0 : World) (l : List UInt8) : LxB w0 (w0.alloc (.cells #[.string (bs l), .int .i64 (0 : Nat)] 57)) l 0 (.slice none 0 0) [] :=
  ⟨RBox.new (w0 := w0) w0 l 0 (Below.refl _ _), Kd.R_nil _ _ _ _ _⟩
theorem LxB.below (h : LxB w0 W l i v out) (hb : Below W.heap.size W W') : LxB w0 W' l i v out := ⟨h.r.below hb, Kd.R_below h.row hb⟩
theorem RBox.froz {g : Nat} (h : RBox w0 W g l i) (j : Nat) : W.frozen? ⟨g, j, none⟩ = false := by have h1 := h.blk; simp [World.frozen?, h1]
theorem LxB.setI (h : LxB w0 W l i v out) (j : Nat) : LxB w0 (W.setCell ⟨w0.heap.size, 1, none⟩ (.int .i64 (j : Nat))) l j v out :=
  ⟨⟨by have h1 := h.r.blk; simp [World.setCell, Array.getElem?_modify, h1], h.r.ge, below_set h.r.bel (Nat.le_refl _)⟩, Kd.R_set h.row h.r.blk (by decide) 1 _⟩
theorem LxB.setI' (h : LxB w0 W l i v out) (j : Nat) (x : Int) (hx : ((j : Nat) : Int) = x) : LxB w0 (W.setCell ⟨w0.heap.size, 1, none⟩ (.int .i64 x)) l j v out := by subst hx; exact h.setI j
variable {P : Program} {ops : Array Oper} {o : Oper} {a : Act} {Q : Exit → Act → World → Prop} {rest : List Oper}
theorem lapp (hgd : o.guard = none) (s x : Operand) (ho : o.op = .call { callee := .builtin .append, args := #[s, x], argTypes := #[29, 29] })
    (ht : P.underlying 29 = some (.slice 41)) (hinfo : (P.info? 41).map (fun i => (i.zero, i.size, i.bytes)) = some (some (.agg #[.int .i64 0, .int .i64 0, .string ⟨#[]⟩]), 3, 32))
    (y : Tok) (h : LxB w0 W l i v out) (hs : a.eval s = v) (m : Nat) (hm : W.heap.size = m) (hx : a.eval x = .slice (some ⟨m, 0, none⟩) 1 1) (hl : out.length ≤ 1000000)
    (K : ∀ v1 w1, LxB w0 w1 l i v1 (out ++ [y]) → wpList P ops Q rest (a.put o.dst v1) w1) : wpList P ops Q (o :: rest) a (W.alloc (.cells #[.int .i64 y.f0, .int .i64 y.f1, .string y.f2] 41)) := by
  subst hm
  refine Kd.R_append k41 (w0 := w0) w0.heap.size hgd s x 29 41 (.agg #[.int .i64 0, .int .i64 0, .string ⟨#[]⟩]) 32 ho ht hinfo rfl (by decide) (by omega) v out y [.int .i64 y.f0, .int .i64 y.f1, .string y.f2] (fun _ => True) (fun _ => False) hs hx (k41_mkM _ _ _ _) (fun _ hk => hk.elim) (fun _ _ => trivial) h.row h.r.bel h.r.bel.size (by omega) ?_
  intro v1 w1 hr hb hg _
  exact K v1 w1 ⟨⟨(hg.block _ (heap_lt h.r.blk) (Kd.R_ne h.row h.r.blk (by decide))).trans h.r.blk, h.r.ge, hb⟩, hr⟩
end
/-- What Lex leaves behind. -/
def LexE (w : World) (r : Except Nat (List Tok)) (e : Ending) (w' : World) : Prop :=
  match r with
  | .ok toks => ∃ v, e = .returned (.tuple #[v, .nilIface]) ∧ Kd.R k41 41 w' w.heap.size (fun _ => True) v toks
  | .error p => ∃ g, e = .returned (.tuple #[.slice none 0 0, .iface 61 (.pointer (some ⟨g, 0, none⟩))]) ∧ w.heap.size ≤ g ∧ w'.heap[g]? = some (.cells #[.int .i64 p, .iface 55 (.int .i64 5)] 63 (0, 0))
set_option maxHeartbeats 8000000 in
set_option maxRecDepth 100000 in
theorem lex_any (l : List UInt8) (hl : l.length ≤ 4000) (w : World) (hX : LaidT8 w) : Calls Tryz.prog 18 #[.string (bs l)] w fun e w' => LexE w (lexS 0 l) e w' ∧ Below w.heap.size w w' := by
  have hsz := bs_size l
  have t1 : ((l.length : Int) > 4000) = False := eq_false (by omega)
  have HX := Aside0.mk hX
  have HL := Aside0.mk hl
  have HB := Aside0.mk (LxB.new w l)
  obtain ⟨R, hR⟩ : ∃ R, lexS 0 l = R := ⟨_, rfl⟩
  have HR := Aside0.mk hR
  rw [hR]
  clear hX hR
  go_enter Tryz.func18, Tryz.ntmps18
  go_wp2_with fail
  go_loopg [4] l.length (fun q v4 wx => ∃ (i : Nat) (s : List UInt8) (out : List Tok), q = s.length ∧ i ≤ l.length ∧ out.length ≤ i ∧ Aside0 (At l i s) ∧ Aside0 (lexCat out (lexS i s) = R) ∧ Aside0 (LxB w wx l i v4 out))
  case atStart => exact ⟨0, l, [], rfl, Nat.zero_le _, Nat.le_refl _, ⟨⟨Nat.zero_le _, rfl⟩⟩, ⟨by rw [lexCat_nil]; exact HR.out⟩, HB⟩
  case round =>
    clear HB
    obtain ⟨i, s, out, hq, hi, ho, HA, HC, HB⟩ := hrel
    have HQ := Aside0.mk hq
    clear hq
    have x0 := HB.out.r.c0
    have x1 := HB.out.r.c1
    have f1 := HB.out.r.froz 1
    cases s with
    | nil =>
      have hil := HA.out.nil
      have t3 : ((i : Int) < (l.length : Int)) = False := eq_false (by omega)
      have HV : Aside0 (R = .ok out) := ⟨by rw [← HC.out]; show Except.ok (out ++ []) = _; rw [List.append_nil]⟩
      clear hil
      go_wp2_with fail
      go_ret2
      rw [HV.out]
      exact ⟨⟨_, by first | rfl | simp, HB.out.row⟩, HB.out.r.bel⟩
    | cons c r =>
      have hlt := HA.out.lt
      have t3 : (i : Int) < (l.length : Int) := by omega
      obtain ⟨b, hb⟩ : ∃ b, blankV (c :: r) = b := ⟨_, rfl⟩
      have HBL : Aside0 (∀ W, Calls Tryz.prog 31 #[.agg #[.string (bs l), .int .i64 i]] W fun e w' => e = .returned (.int .i64 b) ∧ Below W.heap.size W w') := ⟨fun W => by rw [← hb]; exact blank_any l (by have := HL.out; omega) i c r HA.out W⟩
      have hbl := blankV_le (c :: r)
      have hlen := HA.out.len
      rw [hb] at hbl
      by_cases h0 : b = 0
      · have HTK : Aside0 (∀ W, LaidT8 W → Calls Tryz.prog 32 #[.agg #[.string (bs l), .int .i64 i]] W fun e w' => e = .returned (tkAtV i (tokAt (c :: r))) ∧ Below W.heap.size W w') := ⟨fun W h => token_any l (by have := HL.out; omega) i c r HA.out W h⟩
        cases ht : tokAt (c :: r) with
        | none =>
          have HV : Aside0 (R = .error i) := ⟨by rw [← HC.out, lexS_none i c r (hb.trans h0) ht]; rfl⟩
          rw [ht] at HTK
          subst h0
          clear hb ht hbl hlen hlt
          go_wp2_with fail
          refine (HBL.out _).mono ?_
          rintro e_ w1 ⟨rfl, hb1⟩
          have HB1 := Aside0.mk (HB.out.below hb1)
          clear hb1 HB x0 x1 f1
          have x0 := HB1.out.r.c0
          have x1 := HB1.out.r.c1
          go_wp2_with fail
          refine (HTK.out _ (HX.out.below HB1.out.r.bel)).mono ?_
          rintro e_ w2 ⟨rfl, hb2⟩
          have HB2 := Aside0.mk (HB1.out.below hb2)
          clear hb2 HB1 x0 x1
          have x0 := HB2.out.r.c0
          have x1 := HB2.out.r.c1
          have hlt2 := heap_lt HB2.out.r.blk
          unfold tkAtV tok0
          go_wp2_with fail
          go_region
          go_wp2_with fail
          go_ret2
          rw [HV.out]
          have hh := heap_alloc_new (w2.alloc (.cells #[.int .i64 0, .int .i64 0, .string ⟨#[]⟩] 41)) (.cells #[.int .i64 i, .iface 55 (.int .i64 5)] 63)
          rw [show (w2.alloc (.cells #[.int .i64 0, .int .i64 0, .string ⟨#[]⟩] 41)).heap.size = w2.heap.size + 1 from Array.size_push _] at hh
          have hbb : Below w.heap.size w ((w2.alloc (.cells #[.int .i64 0, .int .i64 0, .string ⟨#[]⟩] 41)).alloc (.cells #[.int .i64 i, .iface 55 (.int .i64 5)] 63)) := below_alloc (below_alloc HB2.out.r.bel _) _
          exact ⟨⟨w2.heap.size + 1, by first | rfl | simp, by have := HB2.out.r.bel.size; omega, hh⟩, hbb.drew⟩
        | some x =>
          obtain ⟨k, t, n⟩ := x
          have hn := tok_pos ht
          have hnl := tok_le ht
          have HV : Aside0 (lexCat (out ++ [⟨(k : Nat), (i : Nat), bs t⟩]) (lexS (i + n) ((c :: r).drop n)) = R) := ⟨by rw [← HC.out, lexS_some i c r (hb.trans h0) k t n ht, lexCat_C]⟩
          have HA2 : Aside0 (At l (i + n) ((c :: r).drop n)) := ⟨⟨by omega, by rw [← HA.out.eq, List.drop_drop]⟩⟩
          have HD : Aside0 (((c :: r).drop n).length < (c :: r).length) := ⟨by rw [List.length_drop]; omega⟩
          have hi2 : i + n ≤ l.length := by omega
          have hl4 := HL.out
          have e0 : ((n : Int) == 0) = false := by rw [beq_eq_false_iff_ne]; omega
          rw [ht] at HTK
          subst h0
          obtain ⟨s2, hs2⟩ : ∃ s2, (c :: r).drop n = s2 := ⟨_, rfl⟩
          rw [hs2] at HV HA2 HD
          clear hb ht hbl hlen hlt hnl hs2
          go_wp2_with fail
          refine (HBL.out _).mono ?_
          rintro e_ w1 ⟨rfl, hb1⟩
          have HB1 := Aside0.mk (HB.out.below hb1)
          clear hb1 HB x0 x1 f1
          have x0 := HB1.out.r.c0
          have x1 := HB1.out.r.c1
          go_wp2_with fail
          refine (HTK.out _ (HX.out.below HB1.out.r.bel)).mono ?_
          rintro e_ w2 ⟨rfl, hb2⟩
          have HB2 := Aside0.mk (HB1.out.below hb2)
          clear hb2 HB1 x0 x1
          have x0 := HB2.out.r.c0
          have x1 := HB2.out.r.c1
          have hlt2 := heap_lt HB2.out.r.blk
          unfold tkAtV
          go_wp2_with ((with_reducible refine gate_builtin (b := .append) (xs := #[.tmp 42, .tmp 44]) rfl ?_); at_builtin; refine lapp rfl (.tmp 42) (.tmp 44) rfl Tryz.underlying29 info41 (⟨(k : Nat), (i : Nat), bs t⟩ : Tok) (HB2.out.below (below_alloc (Below.refl _ _) _)) rfl (w2.heap.size + 1) (by simp) rfl (by omega) ?_; intro v_ w_ hs_; have HB3 := Aside0.mk hs_; clear hs_; have y0 := HB3.out.r.c0; have y1 := HB3.out.r.c1; have g1 := HB3.out.r.froz 1)
          go_roundg s2.length
          case measure => have := HQ.out; have := HD.out; omega
          case rel => exact ⟨i + n, s2, out ++ [⟨(k : Nat), (i : Nat), bs t⟩], rfl, hi2, by simp; omega, HA2, HV, ⟨HB3.out.setI' (i + n) _ (by omega)⟩⟩
      · have HV : Aside0 (lexCat out (lexS (i + b) ((c :: r).drop b)) = R) := ⟨by rw [← HC.out, lexS_blank i c r (by rw [hb]; exact h0), hb]⟩
        have HA2 : Aside0 (At l (i + b) ((c :: r).drop b)) := ⟨⟨by omega, by rw [← HA.out.eq, List.drop_drop]⟩⟩
        have HD : Aside0 (((c :: r).drop b).length < (c :: r).length) := ⟨by rw [List.length_drop]; simp; omega⟩
        have hi2 : i + b ≤ l.length := by omega
        have hl4 := HL.out
        have e0 : (b : Int) > 0 := by omega
        obtain ⟨s2, hs2⟩ : ∃ s2, (c :: r).drop b = s2 := ⟨_, rfl⟩
        rw [hs2] at HV HA2 HD
        clear hb hbl hlen hlt hs2
        go_wp2_with fail
        refine (HBL.out _).mono ?_
        rintro e_ w1 ⟨rfl, hb1⟩
        have HB1 := Aside0.mk (HB.out.below hb1)
        clear hb1 HB x0 x1 f1
        have x0 := HB1.out.r.c0
        have x1 := HB1.out.r.c1
        have f1 := HB1.out.r.froz 1
        go_wp2_with fail
        go_roundg s2.length
        case measure => have := HQ.out; have := HD.out; omega
        case rel => exact ⟨i + b, s2, out, rfl, hi2, by omega, HA2, HV, ⟨HB1.out.setI' (i + b) _ (by omega)⟩⟩
end Go.Proofs.YtjleceekccehoaaGreatDoor.Pr
end
