/- Floats of 64 bits, a NaN's bits forgotten: what the operations give, and that the walk may take it. -/
import Derived.WalkKit
import Derived.WalkLawsBesides
set_option linter.unusedVariables false
set_option linter.unusedSimpArgs false
namespace Go.Proofs.Fl
open Go

@[go_sem] theorem run_store_float {P : Program} {w : World} {a : Addr} {m : Mode} (k : FloatKind) (b : Nat) : (store a (.float k b) m).run P w = stored P w a (.float k b) m := run_store P w a _ m rfl

@[go_sem] theorem alloc_drewN (w : World) (n : Nat) (o : Obj) : (w.drewN n).alloc o = (w.alloc o).drewN n := rfl
@[go_sem] theorem setCell_drewN (w : World) (n : Nat) (a : Addr) (v : Value) : (w.drewN n).setCell a v = (w.setCell a v).drewN n := by
  first | rfl | (simp [World.setCell, World.drewN])

def dRead (x : Nat) : Ieee.Datum := Ieee.double.read x
def isN (x : Nat) : Bool := (dRead x).isNaN
def nf (x : Nat) : Option Nat := if isN x = true then none else some x

theorem sw : Ieee.double.signWeight = 2 ^ 63 := by decide
theorem ir : Ieee.double.infRung = 2047 * 2 ^ 52 := by decide
theorem bn : Ieee.double.binade = 2 ^ 52 := by decide

theorem isN_iff (x : Nat) : isN x = decide (2047 * 2 ^ 52 < x % 2 ^ 63) := by
  unfold isN dRead Ieee.Format.read
  simp only [sw, ir, bn]
  by_cases h1 : x % 2 ^ 63 < 2 ^ 52
  · rw [if_pos h1]
    have : ¬ 2047 * 2 ^ 52 < x % 2 ^ 63 := by omega
    simp [Ieee.Datum.isNaN, this]
  · rw [if_neg h1]
    by_cases h2 : x % 2 ^ 63 < 2047 * 2 ^ 52
    · rw [if_pos h2]
      have : ¬ 2047 * 2 ^ 52 < x % 2 ^ 63 := by omega
      simp [Ieee.Datum.isNaN, this]
    · rw [if_neg h2]
      by_cases h3 : x % 2 ^ 63 = 2047 * 2 ^ 52
      · rw [if_pos h3]
        have : ¬ 2047 * 2 ^ 52 < x % 2 ^ 63 := by omega
        simp [Ieee.Datum.isNaN, this]
      · rw [if_neg h3]
        have : 2047 * 2 ^ 52 < x % 2 ^ 63 := by omega
        simp [Ieee.Datum.isNaN, this]

theorem word_not (neg : Bool) (r : Nat) (h : r ≤ 2047 * 2 ^ 52) : isN (Ieee.double.word neg r) = false := by
  rw [isN_iff]
  unfold Ieee.Format.word
  rw [sw]
  cases neg <;> simp <;> omega

theorem write_not (d : Ieee.Datum) (h : d.isNaN = false) : isN (Ieee.double.write d) = false := by
  cases d with
  | number s m e =>
    unfold Ieee.Format.write Ieee.Format.nearest
    dsimp only
    split
    · exact word_not _ _ (by omega)
    · exact word_not _ _ (by rw [ir]; omega)
  | infinity s => exact word_not _ _ (by rw [ir]; omega)
  | nan s t => simp [Ieee.Datum.isNaN] at h

def dOp (op : BinOp) (x y : Nat) : Option Nat := floatBits op .f64 x y

theorem sum_not {a b d : Ieee.Datum} (h : a.sum b = some d) : d.isNaN = false := by
  cases a <;> cases b <;> simp [Ieee.Datum.sum] at h <;> (try (obtain ⟨_, rfl⟩ := h)) <;> (try subst h) <;> rfl
theorem product_not {a b d : Ieee.Datum} (h : a.product b = some d) : d.isNaN = false := by
  cases a <;> cases b <;> simp [Ieee.Datum.product] at h <;> (try (obtain ⟨_, rfl⟩ := h)) <;> (try subst h) <;> rfl
theorem quotient_not {n : Nat} {a b d : Ieee.Datum} (h : a.quotient n b = some d) : d.isNaN = false := by
  cases a <;> cases b <;> simp [Ieee.Datum.quotient] at h <;> (try subst h) <;> (try rfl)
  split at h
  · split at h
    · cases h
    · cases h; rfl
  · cases h; rfl

theorem map_not {o : Option Ieee.Datum} (ho : ∀ d, o = some d → d.isNaN = false) {r : Nat} (h : o.map Ieee.double.write = some r) : isN r = false := by
  cases o with
  | none => cases h
  | some d => cases h; exact write_not d (ho d rfl)

theorem dOp_not {op : BinOp} {x y r : Nat} (h : dOp op x y = some r) : isN r = false := by
  unfold dOp floatBits at h
  cases op <;> simp only at h <;> first | (cases h; done) | skip
  · exact map_not (fun d hd => sum_not hd) h
  · exact map_not (fun d hd => sum_not hd) h
  · exact map_not (fun d hd => product_not hd) h
  · exact map_not (fun d hd => quotient_not hd) h

theorem dOp_nan {op : BinOp} {x y : Nat} (h : isN x = true ∨ isN y = true) : dOp op x y = none := by
  have k : ∀ z, isN z = true → ∃ s t, dRead z = .nan s t := by
    intro z hz
    unfold isN at hz
    cases hd : dRead z with
    | nan s t => exact ⟨s, t, rfl⟩
    | number s m e => rw [hd] at hz; simp [Ieee.Datum.isNaN] at hz
    | infinity s => rw [hd] at hz; simp [Ieee.Datum.isNaN] at hz
  unfold dOp floatBits
  cases op <;> simp only
  all_goals
    show Option.map _ _ = none
    rcases h with h | h <;> obtain ⟨s, t, e⟩ := k _ h <;> unfold dRead at e
  · simp [FloatKind.format, e, Ieee.Datum.sum]
  · simp only [FloatKind.format, e]; cases Ieee.double.read x <;> rfl
  · simp [FloatKind.format, e, Ieee.Datum.sum]
  · simp only [FloatKind.format, e]; cases Ieee.double.read x <;> rfl
  · simp [FloatKind.format, e, Ieee.Datum.product]
  · simp only [FloatKind.format, e]; cases Ieee.double.read x <;> rfl
  · simp [FloatKind.format, e, Ieee.Datum.quotient]
  · simp only [FloatKind.format, e]; cases Ieee.double.read x <;> rfl

/-- An operation, NaNs being one. -/
def fop (op : BinOp) (a b : Option Nat) : Option Nat := a.bind fun x => b.bind fun y => dOp op x y

theorem fop_nf (op : BinOp) (x y : Nat) : fop op (nf x) (nf y) = dOp op x y := by
  unfold fop nf
  by_cases hx : isN x = true
  · rw [if_pos hx, dOp_nan (.inl hx)]; rfl
  · rw [if_neg hx]
    by_cases hy : isN y = true
    · rw [if_pos hy, dOp_nan (.inr hy)]; rfl
    · rw [if_neg hy]; rfl

theorem nf_some {op : BinOp} {x y r : Nat} (h : dOp op x y = some r) : nf r = some r := by
  unfold nf; rw [dOp_not h]; rfl

theorem nan_cut (x y t : Nat) : isN ((Question.nanBits .f64 x y).cut t) = true := by
  rw [isN_iff]
  apply decide_eq_true
  show 2047 * 2 ^ 52 < ((t % 2) * 2 ^ 63 + 0x7ff0000000000000 + 1 + (t / 2) % (2 ^ 52 - 1)) % 2 ^ 63
  have h1 : (t / 2) % (2 ^ 52 - 1) < 2 ^ 52 - 1 := Nat.mod_lt _ (by decide)
  have e : (t % 2) * 2 ^ 63 + 0x7ff0000000000000 + 1 + (t / 2) % (2 ^ 52 - 1) = (0x7ff0000000000000 + 1 + (t / 2) % (2 ^ 52 - 1)) + 2 ^ 63 * (t % 2) := by omega
  rw [e, Nat.add_mul_mod_self_left, Nat.mod_eq_of_lt (by omega)]
  omega

/-- Whether the tape is asked. -/
def fn (op : BinOp) (x y : Nat) : Nat := if (dOp op x y).isSome = true then 0 else 1
/-- The bits. -/
def fb (op : BinOp) (x y : Nat) (w : World) : Nat := (dOp op x y).getD ((Question.nanBits .f64 x y).cut (w.tape w.drawn (.nanBits .f64 x y)))

theorem nf_fb (op : BinOp) (x y : Nat) (w : World) : nf (fb op x y w) = fop op (nf x) (nf y) := by
  rw [fop_nf]
  unfold fb
  cases h : dOp op x y with
  | some r => exact nf_some h
  | none =>
    show nf ((Question.nanBits .f64 x y).cut _) = none
    unfold nf; rw [nan_cut]; rfl

theorem fb_lt (op : BinOp) (x y : Nat) (w : World) : fb op x y w < 2 ^ 64 := by
  unfold fb
  cases h : dOp op x y with
  | some r =>
    have := floatBits_wf (k := .f64) h
    simpa [Lit.wf] using this
  | none =>
    show (Question.nanBits .f64 x y).cut _ < _
    simp only [Question.cut]
    generalize w.tape w.drawn (.nanBits .f64 x y) = t
    have h1 : (t / 2) % (2 ^ 52 - 1) < 2 ^ 52 - 1 := Nat.mod_lt _ (by decide)
    have h2 : t % 2 < 2 := Nat.mod_lt _ (by decide)
    show (t % 2) * 2 ^ 63 + 0x7ff0000000000000 + 1 + (t / 2) % (2 ^ 52 - 1) < 2 ^ 64
    have h3 : (t % 2) * 2 ^ 63 ≤ 1 * 2 ^ 63 := Nat.mul_le_mul_right _ (by omega)
    omega

def isArith : BinOp → Bool
  | .add | .sub | .mul | .quo => true
  | _ => false

theorem run_arith {P : Program} (w : World) (op : BinOp) (t : TypeId) (x y : Nat) (ho : isArith op = true) :
    (binOp op t (.float .f64 x) (.float .f64 y)).run P w = .ok (.float .f64 (fb op x y w)) (w.drewN (fn op x y)) := by
  unfold fb fn
  cases h : dOp op x y with
  | some r => exact run_float_arith w op t .f64 x y r h
  | none =>
    unfold dOp floatBits at h
    cases op <;> simp only [isArith, reduceCtorEq, Bool.false_eq_true] at ho <;> simp only at h <;> (simp [binOp, Op.floatArith, h, choose, Sem.run, Question.forced]; rfl)

/-! The operation in a walk: the result has a name of its own. -/
section
variable {P : Program} {ops : Array Oper} {o : Oper} {a : Act} {w : World} {K : Act → World → Prop} {Q : Exit → Act → World → Prop} {E : Prop} {rest : List Oper}
theorem wp_arith (b1 b2 : Operand) (t t' : TypeId) (op : BinOp) (ho : o.op = .binOp op t b1 b2 t') (ha : isArith op = true) (x y : Nat) (hx : a.eval b1 = .float .f64 x) (hy : a.eval b2 = .float .f64 y)
    (h : ∀ b n, nf b = fop op (nf x) (nf y) → K (a.put o.dst (.float .f64 b)) (w.drewN n)) : o.wp P a w K Q := by
  unfold Oper.wp
  have e : (execOp a.eval o).run P w = .ok (.value (.float .f64 (fb op x y w))) (w.drewN (fn op x y)) := by
    have hr := run_arith (P := P) w op t x y ha
    simp only [execOp, ho, hx, hy]
    generalize binOp op t (.float .f64 x) (.float .f64 y) = s at hr
    simp [hr, go_sem]
  rw [e]
  exact h _ _ (nf_fb ..)
theorem step_arith (hgd : o.guard = none) (b1 b2 : Operand) (t t' : TypeId) (op : BinOp) (ho : o.op = .binOp op t b1 b2 t') (ha : isArith op = true) (x y : Nat) (hx : a.eval b1 = .float .f64 x) (hy : a.eval b2 = .float .f64 y)
    (h : ∀ b n, nf b = fop op (nf x) (nf y) → K (a.put o.dst (.float .f64 b)) (w.drewN n)) : if Region.wanted o (yielded ops a.tmps) = true then Oper.wp P o a w K Q else E := by
  have hw : Region.wanted o (yielded ops a.tmps) = true := by simp [Region.wanted, hgd]
  rw [if_pos hw]
  exact wp_arith b1 b2 t t' op ho ha x y hx hy h
theorem wpList_arith (hgd : o.guard = none) (b1 b2 : Operand) (t t' : TypeId) (op : BinOp) (ho : o.op = .binOp op t b1 b2 t') (ha : isArith op = true) (x y : Nat) (hx : a.eval b1 = .float .f64 x) (hy : a.eval b2 = .float .f64 y)
    (h : ∀ b n, nf b = fop op (nf x) (nf y) → wpList P ops Q rest (a.put o.dst (.float .f64 b)) (w.drewN n)) : wpList P ops Q (o :: rest) a w :=
  wpList_plain hgd fun K hK => wp_arith b1 b2 t t' op ho ha x y hx hy fun b n hb => hK _ _ (h b n hb)
end

end Go.Proofs.Fl
