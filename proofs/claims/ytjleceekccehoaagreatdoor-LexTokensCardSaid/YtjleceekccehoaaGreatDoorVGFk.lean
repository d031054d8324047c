/- Texts of this session, cut down to what one claim needs and joined: FK, VNorm. -/
import Derived.WalkKit
import Derived.WalkLawsBesides
import Derived.Test.YtjleceekccehoaaGreatDoorVGJ0
import Derived.WalkSpells
section
set_option linter.unusedVariables false
set_option linter.unusedSimpArgs false
namespace Go.Proofs.Fl
open Go

@[go_sem] theorem run_store_float {P : Program} {w : World} {a : Addr} {m : Mode} (k : FloatKind) (b : Nat) : (store a (.float k b) m).run P w = stored P w a (.float k b) m := run_store P w a _ m rfl

@[go_sem] theorem alloc_drewN (w : World) (n : Nat) (o : Obj) : (w.drewN n).alloc o = (w.alloc o).drewN n := rfl
@[go_sem] theorem setCell_drewN (w : World) (n : Nat) (a : Addr) (v : Value) : (w.drewN n).setCell a v = (w.setCell a v).drewN n := by
 first | rfl | (simp [World.setCell, World.drewN])

def dRead (x : Nat) : Ieee.Datum := Ieee.double.read x
def isN (x : Nat) : Bool := (dRead x).isNaN
theorem sw : Ieee.double.signWeight = 2 ^ 63 := by decide
theorem ir : Ieee.double.infRung = 2047 * 2 ^ 52 := by decide
theorem bn : Ieee.double.binade = 2 ^ 52 := by decide

theorem isN_iff (x : Nat) : isN x = decide (2047 * 2 ^ 52 < x % 2 ^ 63) := by
 unfold isN dRead Ieee.Format.read
 simp only [sw, ir, bn]
 by_cases h1 : x % 2 ^ 63 < 2 ^ 52
 ·rw [if_pos h1]
  have : ¬ 2047 * 2 ^ 52 < x % 2 ^ 63 := by omega
  simp [Ieee.Datum.isNaN, this]
 ·rw [if_neg h1]
  by_cases h2 : x % 2 ^ 63 < 2047 * 2 ^ 52
  ·rw [if_pos h2]
   have : ¬ 2047 * 2 ^ 52 < x % 2 ^ 63 := by omega
   simp [Ieee.Datum.isNaN, this]
  ·rw [if_neg h2]
   by_cases h3 : x % 2 ^ 63 = 2047 * 2 ^ 52
   ·rw [if_pos h3]
    have : ¬ 2047 * 2 ^ 52 < x % 2 ^ 63 := by omega
    simp [Ieee.Datum.isNaN, this]
   ·rw [if_neg h3]
    have : 2047 * 2 ^ 52 < x % 2 ^ 63 := by omega
    simp [Ieee.Datum.isNaN, this]

theorem word_not (neg : Bool) (r : Nat) (h : r ≤ 2047 * 2 ^ 52) : isN (Ieee.double.word neg r) = false := by
 rw [isN_iff]
 unfold Ieee.Format.word
 rw [sw]
 cases neg <;> simp <;> omega

def dOp (op : BinOp) (x y : Nat) : Option Nat := floatBits op .f64 x y

/-- Whether the tape is asked. -/
def fn (op : BinOp) (x y : Nat) : Nat := if (dOp op x y).isSome = true then 0 else 1
/-- The bits. -/
def fb (op : BinOp) (x y : Nat) (w : World) : Nat := (dOp op x y).getD ((Question.nanBits .f64 x y).cut (w.tape w.drawn (.nanBits .f64 x y)))

def isArith : BinOp → Bool
 | .add | .sub | .mul | .quo => true
 | _ => false

theorem run_arith {P : Program} (w : World) (op : BinOp) (t : TypeId) (x y : Nat) (ho : isArith op = true) :
  (binOp op t (.float .f64 x) (.float .f64 y)).run P w = .ok (.float .f64 (fb op x y w)) (w.drewN (fn op x y)) := by
 unfold fb fn
 cases h : dOp op x y with
 | some r => exact run_float_arith w op t .f64 x y r h
 | none =>
  unfold dOp floatBits at h
  cases op <;> simp only [isArith, reduceCtorEq, Bool.false_eq_true] at ho <;> simp only at h <;> (simp [binOp, Op.floatArith, h, choose, Sem.run, Question.forced]; rfl)

/-! The operation in a walk: the result has a name of its own. -/
section
variable {P : Program} {ops : Array Oper} {o : Oper} {a : Act} {w : World} {K : Act → World → Prop} {Q : Exit → Act → World → Prop} {E : Prop} {rest : List Oper}
end

end Go.Proofs.Fl
end

section
set_option linter.unusedVariables false
set_option linter.unusedSimpArgs false
namespace Go.Proofs.YtjleceekccehoaaGreatDoor.Pr
open Go.RowKit Go.Proofs.Fl Go.Proofs.YtjleceekccehoaaGreatDoorW.PrintWords

theorem frombits_run (v : Int) (w : World) : (callFunc 27 #[.int .u64 v]).run Tryz.prog w = .ok (.value (.float .f64 v.toNat)) w := by
 rw [run_callFunc_extern Tryz.func27 (by kernel_rfl) (by kernel_rfl) (by kernel_rfl) (e := Extern.MathFloatBits.float64frombits) (by kernel_rfl)]; rfl
attribute [local go_sem] frombits_run
theorem isN_order (x : Nat) : (Ieee.double.order x x != some .eq) = isN x := by
 unfold isN dRead Ieee.Format.order
 cases Ieee.double.read x with
 | nan s t => rfl
 | infinity s => cases s <;> rfl
 | number s m e => simp [Ieee.Datum.order, Ieee.Datum.isNaN]
theorem isNaN_any (x : Nat) (w : World) : Calls Tryz.prog 26 #[.float .f64 x] w fun e w' => e = .returned (.bool (isN x)) ∧ w = w' := by
 go_enter Tryz.func26, Tryz.ntmps26
 go_wp2
 go_ret
 exact ⟨by rw [← isN_order]; rfl, rfl⟩
def normI (v : Int) : Int := if isN v.toNat = true ∧ v ≠ 9218868437227405314 then 9221120237041090561 else v
theorem norm_any (v : Int) (w : World) : Calls Tryz.prog 10 #[.int .u64 v] w fun e w' => e = .returned (.int .u64 (normI v)) ∧ w = w' := by
 cases hn : isN v.toNat
 ·go_enter Tryz.func10, Tryz.ntmps10
  go_wp2_with (first | (go_at_call 26; refine (isNaN_any _ _).mono ?_; rw [hn]; rintro e w' ⟨rfl, rfl⟩))
  go_ret
  exact ⟨by simp [normI, hn], rfl⟩
 ·by_cases hs : v = 9218868437227405314
  ·subst hs
   replace hn : isN 9218868437227405314 = true := hn
   go_enter Tryz.func10, Tryz.ntmps10
   go_wp2_with (first | (go_at_call 26; refine (isNaN_any _ _).mono ?_; rw [hn]; rintro e w' ⟨rfl, rfl⟩))
   go_ret
   exact ⟨by simp [normI], rfl⟩
  ·have hb : (v != 9218868437227405314) = true := by simpa using hs
   have HS := Aside0.mk hs
   have hn' := Aside0.mk hn
   clear hs hn
   go_enter Tryz.func10, Tryz.ntmps10
   go_wp2_with (first | (go_at_call 26; refine (isNaN_any _ _).mono ?_; rw [hn'.out]; rintro e w' ⟨rfl, rfl⟩))
   go_ret
   exact ⟨by simp [normI, hn'.out, HS.out], rfl⟩
def value_Norm.f (v : Int) : Option Int := some (normI v)
theorem value_Norm.calls (a0 : Int) (r : Int) (w : World) (h : value_Norm.f a0 = some r) :
  Calls Tryz.prog 10 #[.int .u64 a0] w fun e w' => e = .returned (.int .u64 r) ∧ Drawn0 w w' := by
 obtain rfl := Option.some.inj h
 exact (norm_any a0 w).mono fun e w' ⟨he, hw⟩ => ⟨he, by rw [← hw]; exact Drawn0.refl w⟩
end Go.Proofs.YtjleceekccehoaaGreatDoor.Pr
end
