/- Texts of this session, cut down to what one claim needs and joined: PrStrconvLog2Pow10, PrStrconvSkewed, PrStrconvBool2Int, PrStrconvUnroundedNudge, PrStrconvUnroundedCeil, PrStrconvUnroundedFloor, PrStrconvUnroundedRound, FfNum, FfText, FfMain, PrSoundingsref04IsNone, FfFmt. -/
import Derived.Test.YtjleceekccehoaaGreatDoorQGJ0
import Derived.Test.YtjleceekccehoaaGreatDoorQGOrd
import Derived.Test.YtjleceekccehoaaGreatDoorQGAs
import Derived.Test.YtjleceekccehoaaGreatDoorQGJ1
import GoSem.PinnedTables
import Derived.Deep.QuietTactic
import Derived.BigQuiet
import Derived.Deep.LoopGhost
import Derived.WalkMore
import Derived.StillTailTactics
import Derived.Laws.BitsLemmas
import Derived.Lib.EndianBits
section
-- Written by a program of this session (wip/hook.py) out of the translation. Not trusted: Lean checks it.
namespace Go.Proofs.YtjleceekccehoaaGreatDoor.Pr
open Go.RowKit Go.Proofs.YtjleceekccehoaaGreatDoorW.PrintWords Go.Proofs.YtjleceekccehoaaGreatDoorW.PrintLast Go.Proofs.YtjleceekccehoaaGreatDoorW.PrintMore
attribute [local go_sem] max2_int min2_int max_two min_two max_three min_three max_four min_four   -- for this text's walks alone
set_option linter.unusedVariables false
set_option linter.unusedSimpArgs false

/-! ### strconv_log2Pow10: function 132 -/
def strconv_log2Pow10.f (a0 : Int) : Option (Int) := some ((wrap64 (a0 * 108853)) / 32768)
set_option maxHeartbeats 8000000 in
set_option maxRecDepth 100000 in
theorem strconv_log2Pow10.calls (a0 : Int) (r : Int) (w : World) (h : strconv_log2Pow10.f a0 = some r) :
    Calls Tryz.prog 132 #[.int .i64 a0] w fun e w' => e = .returned (.int .i64 r) ∧ Drawn0 w w' := by
  have H : (some ((wrap64 (a0 * 108853)) / 32768)) = some r := h
  clear h
  obtain rfl := Option.some.inj H
  go_enter Tryz.func132, Tryz.ntmps132
  go_wp2
  go_ret
  exact ⟨by first | rfl | (simp; done) | (simp [*]; done), by repeat (first | exact Drawn0.refl _ | apply Drawn0.step)⟩

end Go.Proofs.YtjleceekccehoaaGreatDoor.Pr
end

section
-- Written by a program of this session (wip/hook.py) out of the translation. Not trusted: Lean checks it.
namespace Go.Proofs.YtjleceekccehoaaGreatDoor.Pr
open Go.RowKit Go.Proofs.YtjleceekccehoaaGreatDoorW.PrintWords Go.Proofs.YtjleceekccehoaaGreatDoorW.PrintLast Go.Proofs.YtjleceekccehoaaGreatDoorW.PrintMore
attribute [local go_sem] max2_int min2_int max_two min_two max_three min_three max_four min_four   -- for this text's walks alone
set_option linter.unusedVariables false
set_option linter.unusedSimpArgs false

/-! ### strconv_skewed: function 130 -/
def strconv_skewed.f (a0 : Int) : Option (Int) := some ((wrap64 ((wrap64 (a0 * 631305)) - 261663)) / 2097152)
set_option maxHeartbeats 8000000 in
set_option maxRecDepth 100000 in
theorem strconv_skewed.calls (a0 : Int) (r : Int) (w : World) (h : strconv_skewed.f a0 = some r) :
    Calls Tryz.prog 130 #[.int .i64 a0] w fun e w' => e = .returned (.int .i64 r) ∧ Drawn0 w w' := by
  have H : (some ((wrap64 ((wrap64 (a0 * 631305)) - 261663)) / 2097152)) = some r := h
  clear h
  obtain rfl := Option.some.inj H
  go_enter Tryz.func130, Tryz.ntmps130
  go_wp2
  go_ret
  exact ⟨by first | rfl | (simp; done) | (simp [*]; done), by repeat (first | exact Drawn0.refl _ | apply Drawn0.step)⟩

end Go.Proofs.YtjleceekccehoaaGreatDoor.Pr
end

section
-- Written by a program of this session (wip/hook.py) out of the translation. Not trusted: Lean checks it.
namespace Go.Proofs.YtjleceekccehoaaGreatDoor.Pr
open Go.RowKit Go.Proofs.YtjleceekccehoaaGreatDoorW.PrintWords Go.Proofs.YtjleceekccehoaaGreatDoorW.PrintLast Go.Proofs.YtjleceekccehoaaGreatDoorW.PrintMore
attribute [local go_sem] max2_int min2_int max_two min_two max_three min_three max_four min_four   -- for this text's walks alone
set_option linter.unusedVariables false
set_option linter.unusedSimpArgs false

/-! ### strconv_bool2_int: function 139 -/
def strconv_bool2_int.f (a0 : Bool) : Option (Int) := if a0 = true then (some 1) else (some 0)
set_option maxHeartbeats 8000000 in
set_option maxRecDepth 100000 in
theorem strconv_bool2_int.calls (a0 : Bool) (r : Int) (w : World) (h : strconv_bool2_int.f a0 = some r) :
    Calls Tryz.prog 139 #[.bool a0] w fun e w' => e = .returned (.int .i64 r) ∧ Drawn0 w w' := by
  have H : (if a0 = true then (some 1) else (some 0)) = some r := h
  clear h
  by_cases c2 : a0 = true
  · subst c2
    have H1 : (some 1) = some r := by rw [if_pos rfl] at H; exact H
    clear H
    have H := H1
    clear H1
    obtain rfl := Option.some.inj H
    go_enter Tryz.func139, Tryz.ntmps139
    go_wp2
    go_ret
    exact ⟨by first | rfl | (simp; done) | (simp [*]; done), by repeat (first | exact Drawn0.refl _ | apply Drawn0.step)⟩
  · replace c2 := Bool.eq_false_iff.mpr c2
    subst c2
    have H1 : (some 0) = some r := by rw [if_neg (show ¬ (false = true) by decide)] at H; exact H
    clear H
    have H := H1
    clear H1
    obtain rfl := Option.some.inj H
    go_enter Tryz.func139, Tryz.ntmps139
    go_wp2
    go_ret
    exact ⟨by first | rfl | (simp; done) | (simp [*]; done), by repeat (first | exact Drawn0.refl _ | apply Drawn0.step)⟩

end Go.Proofs.YtjleceekccehoaaGreatDoor.Pr
end

section
-- Written by a program of this session (wip/hook.py) out of the translation. Not trusted: Lean checks it.
namespace Go.Proofs.YtjleceekccehoaaGreatDoor.Pr
open Go.RowKit Go.Proofs.YtjleceekccehoaaGreatDoorW.PrintWords Go.Proofs.YtjleceekccehoaaGreatDoorW.PrintLast Go.Proofs.YtjleceekccehoaaGreatDoorW.PrintMore
attribute [local go_sem] max2_int min2_int max_two min_two max_three min_three max_four min_four   -- for this text's walks alone
set_option linter.unusedVariables false
set_option linter.unusedSimpArgs false

/-! ### strconv_unrounded_nudge: function 134 -/
def strconv_unrounded_nudge.f (a0 : Int) (a1 : Int) : Option (Int) := some (IntKind.u64.wrap (a0 + (IntKind.u64.wrap (a1))))
set_option maxHeartbeats 8000000 in
set_option maxRecDepth 100000 in
theorem strconv_unrounded_nudge.calls (a0 : Int) (a1 : Int) (r : Int) (w : World) (h : strconv_unrounded_nudge.f a0 a1 = some r) :
    Calls Tryz.prog 134 #[.int .u64 a0, .int .i64 a1] w fun e w' => e = .returned (.int .u64 r) ∧ Drawn0 w w' := by
  have H : (some (IntKind.u64.wrap (a0 + (IntKind.u64.wrap (a1))))) = some r := h
  clear h
  obtain rfl := Option.some.inj H
  go_enter Tryz.func134, Tryz.ntmps134
  go_wp2
  go_ret
  exact ⟨by first | rfl | (simp; done) | (simp [*]; done), by repeat (first | exact Drawn0.refl _ | apply Drawn0.step)⟩

end Go.Proofs.YtjleceekccehoaaGreatDoor.Pr
end

section
-- Written by a program of this session (wip/hook.py) out of the translation. Not trusted: Lean checks it.
namespace Go.Proofs.YtjleceekccehoaaGreatDoor.Pr
open Go.RowKit Go.Proofs.YtjleceekccehoaaGreatDoorW.PrintWords Go.Proofs.YtjleceekccehoaaGreatDoorW.PrintLast Go.Proofs.YtjleceekccehoaaGreatDoorW.PrintMore
attribute [local go_sem] max2_int min2_int max_two min_two max_three min_three max_four min_four   -- for this text's walks alone
set_option linter.unusedVariables false
set_option linter.unusedSimpArgs false

/-! ### strconv_unrounded_ceil: function 135 -/
def strconv_unrounded_ceil.f (a0 : Int) : Option (Int) := some ((IntKind.u64.wrap (a0 + 3)) / 4)
set_option maxHeartbeats 8000000 in
set_option maxRecDepth 100000 in
theorem strconv_unrounded_ceil.calls (a0 : Int) (r : Int) (w : World) (h : strconv_unrounded_ceil.f a0 = some r) :
    Calls Tryz.prog 135 #[.int .u64 a0] w fun e w' => e = .returned (.int .u64 r) ∧ Drawn0 w w' := by
  have H : (some ((IntKind.u64.wrap (a0 + 3)) / 4)) = some r := h
  clear h
  obtain rfl := Option.some.inj H
  go_enter Tryz.func135, Tryz.ntmps135
  go_wp2
  go_ret
  exact ⟨by first | rfl | (simp; done) | (simp [*]; done), by repeat (first | exact Drawn0.refl _ | apply Drawn0.step)⟩

end Go.Proofs.YtjleceekccehoaaGreatDoor.Pr
end

section
-- Written by a program of this session (wip/hook.py) out of the translation. Not trusted: Lean checks it.
namespace Go.Proofs.YtjleceekccehoaaGreatDoor.Pr
open Go.RowKit Go.Proofs.YtjleceekccehoaaGreatDoorW.PrintWords Go.Proofs.YtjleceekccehoaaGreatDoorW.PrintLast Go.Proofs.YtjleceekccehoaaGreatDoorW.PrintMore
attribute [local go_sem] max2_int min2_int max_two min_two max_three min_three max_four min_four   -- for this text's walks alone
set_option linter.unusedVariables false
set_option linter.unusedSimpArgs false

/-! ### strconv_unrounded_floor: function 136 -/
def strconv_unrounded_floor.f (a0 : Int) : Option (Int) := some ((IntKind.u64.wrap (a0 + 0)) / 4)
set_option maxHeartbeats 8000000 in
set_option maxRecDepth 100000 in
theorem strconv_unrounded_floor.calls (a0 : Int) (r : Int) (w : World) (h : strconv_unrounded_floor.f a0 = some r) :
    Calls Tryz.prog 136 #[.int .u64 a0] w fun e w' => e = .returned (.int .u64 r) ∧ Drawn0 w w' := by
  have H : (some ((IntKind.u64.wrap (a0 + 0)) / 4)) = some r := h
  clear h
  obtain rfl := Option.some.inj H
  go_enter Tryz.func136, Tryz.ntmps136
  go_wp2
  go_ret
  exact ⟨by first | rfl | (simp; done) | (simp [*]; done), by repeat (first | exact Drawn0.refl _ | apply Drawn0.step)⟩

end Go.Proofs.YtjleceekccehoaaGreatDoor.Pr
end

section
-- Written by a program of this session (wip/hook.py) out of the translation. Not trusted: Lean checks it.
namespace Go.Proofs.YtjleceekccehoaaGreatDoor.Pr
open Go.RowKit Go.Proofs.YtjleceekccehoaaGreatDoorW.PrintWords Go.Proofs.YtjleceekccehoaaGreatDoorW.PrintLast Go.Proofs.YtjleceekccehoaaGreatDoorW.PrintMore
attribute [local go_sem] max2_int min2_int max_two min_two max_three min_three max_four min_four   -- for this text's walks alone
set_option linter.unusedVariables false
set_option linter.unusedSimpArgs false

/-! ### strconv_unrounded_round: function 137 -/
def strconv_unrounded_round.f (a0 : Int) : Option (Int) := some ((IntKind.u64.wrap ((IntKind.u64.wrap (a0 + 1)) + (Go.bits .and .u64 (a0 / 4) 1))) / 4)
set_option maxHeartbeats 8000000 in
set_option maxRecDepth 100000 in
theorem strconv_unrounded_round.calls (a0 : Int) (r : Int) (w : World) (h : strconv_unrounded_round.f a0 = some r) :
    Calls Tryz.prog 137 #[.int .u64 a0] w fun e w' => e = .returned (.int .u64 r) ∧ Drawn0 w w' := by
  have H : (some ((IntKind.u64.wrap ((IntKind.u64.wrap (a0 + 1)) + (Go.bits .and .u64 (a0 / 4) 1))) / 4)) = some r := h
  clear h
  obtain rfl := Option.some.inj H
  go_enter Tryz.func137, Tryz.ntmps137
  go_wp2
  go_ret
  exact ⟨by first | rfl | (simp; done) | (simp [*]; done), by repeat (first | exact Drawn0.refl _ | apply Drawn0.step)⟩

end Go.Proofs.YtjleceekccehoaaGreatDoor.Pr
end

section
set_option linter.unusedVariables false
set_option linter.unusedSimpArgs false
namespace Go.Proofs.YtjleceekccehoaaGreatDoor.Pr
open Go.RowKit Go.Proofs.YtjleceekccehoaaGreatDoorW.PrintWords Go.Proofs.YtjleceekccehoaaGreatDoorW.PrintLast Go.Proofs.YtjleceekccehoaaGreatDoorW.PrintMore

def p10 (i : Nat) : Int := ((10 ^ i : Nat) : Int)
def hiT (i : Nat) : Int := ((Go.Pinned.pow10Rows.getD i (0, 0)).1 : Nat)
def loT (i : Nat) : Int := ((Go.Pinned.pow10Rows.getD i (0, 0)).2 : Nat)
/-- What strconv's tables hold. -/
structure LaidF (w : World) : Prop where
  pow : ∀ i, i < 20 → w.cell? ⟨9, i, none⟩ = some (.int .u64 (p10 i))
  hi : ∀ i, i < 696 → w.cell? ⟨14, i * 2, none⟩ = some (.int .u64 (hiT i))
  lo : ∀ i, i < 696 → w.cell? ⟨14, i * 2 + 1, none⟩ = some (.int .u64 (loT i))
theorem LaidF.below {w w' : World} (h : LaidF w) (hb : Below w.heap.size w w') : LaidF w' :=
  ⟨fun i hi => pw_cell_below hb (h.pow i hi), fun i hi => pw_cell_below hb (h.hi i hi), fun i hi => pw_cell_below hb (h.lo i hi)⟩

def len64 (x : Int) : Int := (Lib.bitLen x.toNat : Nat)
theorem len_any (x : Int) (h0 : 0 ≤ x) (h1 : x ≤ 18446744073709551615) (w : World) : Calls Tryz.prog 100 #[.int .u64 x] w fun e w' => e = .returned (.int .i64 (len64 x)) ∧ w = w' :=
  (Any.bits_Len64 Tryz.lays129 x w h0 h1).mono fun _ _ ⟨a, b⟩ => ⟨a, b.symm⟩
def l2 (x : Int) : Int := wrap64 (x * 108853) / 32768
theorem l2_any (x : Int) (w : World) : Calls Tryz.prog 132 #[.int .i64 x] w fun e w' => e = .returned (.int .i64 (l2 x)) ∧ Drawn0 w w' := strconv_log2Pow10.calls x _ w rfl
def b2i (b : Bool) : Int := if b = true then 1 else 0
theorem b2i_any (b : Bool) (w : World) : Calls Tryz.prog 139 #[.bool b] w fun e w' => e = .returned (.int .i64 (b2i b)) ∧ Drawn0 w w' := strconv_bool2_int.calls b _ w (by cases b <;> rfl)

theorem bitLenAux_le (f : Nat) : ∀ x, Lib.bitLenAux f x ≤ f := by
  induction f with
  | zero => intro x; simp [Lib.bitLenAux]
  | succ f ih => intro x; unfold Lib.bitLenAux; split; omega; have := ih (x / 2); omega
theorem len64_bd (x : Int) : 0 ≤ len64 x ∧ len64 x ≤ 64 := by
  have := bitLenAux_le 64 x.toNat
  unfold len64 Lib.bitLen; omega
def preS (e lp : Int) : Int := wrap64 (-wrap64 (wrap64 (e + lp) + 3))
set_option maxHeartbeats 4000000 in
set_option maxRecDepth 100000 in
theorem prescale_any (g : Nat) (s0 s1 s2 : Int) (e p lp : Int) (h0 : 0 ≤ p + 348) (h1 : p + 348 < 696) (w0 w : World) (hI : IsS186 w0 w g s0 s1 s2) (hB : Below w0.heap.size w0 w) (hL : LaidF w0) :
    Calls Tryz.prog 131 #[.pointer (some ⟨g, 0, none⟩), .int .i64 e, .int .i64 p, .int .i64 lp] w fun e_ w' => e_ = .returned (.tuple #[]) ∧ IsS186 w0 w' g (hiT (p + 348).toNat) (loT (p + 348).toNat) (preS e lp) ∧ Below w0.heap.size w0 w' := by
  obtain ⟨q, hq⟩ : ∃ q, q = p + 348 := ⟨_, rfl⟩
  have hc1 := hL.hi q.toNat (by omega)
  have hc2 := hL.lo q.toNat (by omega)
  have lt1 := World.block_lt_of_cell? w0 _ hc1
  replace hc1 := pw_cell_below hB hc1
  replace hc2 := pw_cell_below hB hc2
  have hge := hI.ge
  have hne : ¬ g = 14 := by
    intro he; rw [he] at hge; simp at lt1; omega
  have z0 : 0 ≤ q := by omega
  have z1 : q < 696 := by omega
  have z2 : IntKind.i64.wrap (p - (-348)) = q := by rw [IntWalk.i64_in _ (by omega)]; omega
  have z3 : IntKind.i64.wrap (p + 348) = q := by rw [IntWalk.i64_in _ (by omega)]; omega
  obtain ⟨HG, hg⟩ := hI
  have x0 := cellS186_0 HG
  have x1 := cellS186_1 HG
  have x2 := cellS186_2 HG
  have f0 := (Blk.frozen (w := w) (g := g) (t := 186) HG)
  have k0 := f0 0
  have k1 := f0 1
  have k2 := f0 2
  have HI : Aside0 (IsS186 w0 w g s0 s1 s2) := ⟨⟨HG, hg⟩⟩
  have HB := Aside0.mk hB
  rw [← hq]
  clear HG hg hB f0 hL hge lt1 hq h0 h1
  go_enter Tryz.func131, Tryz.ntmps131
  go_wp2
  go_end0
  exact ⟨rfl, ((HI.out.set_0 _).set_1 _).set_2 _, below_set (below_set (below_set HB.out (IsS186.ge HI.out)) (IsS186.ge HI.out)) (IsS186.ge HI.out)⟩

/-- What uscale returns. -/
def usc (x hi lo s : Int) : Int := ((strconv_uscale.f x hi lo s).map (·.1)).getD 0
theorem and63 (s : Int) : 0 ≤ Go.bits .and .i64 s 63 := by
  have h : ((BitVec.ofInt 64 s) &&& (BitVec.ofInt 64 63)).toNat ≤ 63 := by rw [BitVec.toNat_and]; exact Nat.and_le_right
  show 0 ≤ IntKind.i64.wrap (((BitVec.ofInt 64 s) &&& (BitVec.ofInt 64 63)).toNat : Nat)
  rw [IntWalk.i64_in _ (by omega)]; omega
theorem usc_f (x hi lo s : Int) : strconv_uscale.f x hi lo s = some (usc x hi lo s, hi, lo, s) := by
  have h63 := and63 s
  have hb : ∀ b, strconv_bool2_uint64.f b = some (if b = true then 1 else 0) := by intro b; cases b <;> rfl
  have hm : ∀ a b, ∃ r, bits_Mul64.f a b = some r := fun a b => ⟨_, rfl⟩
  unfold usc strconv_uscale.f
  simp only [if_pos h63, hb, Option.bind_some]
  obtain ⟨r1, e1⟩ := hm x hi
  obtain ⟨r2, e2⟩ := hm x lo
  rw [e1, e2]
  simp only [Option.bind_some]
  split <;> rfl
theorem uscale_any (x : Int) (g : Nat) (hi lo s : Int) (w0 w : World) (hI : IsS186 w0 w g hi lo s) (hB : Below w0.heap.size w0 w) :
    Calls Tryz.prog 133 #[.int .u64 x, .pointer (some ⟨g, 0, none⟩)] w fun e w' => e = .returned (.int .u64 (usc x hi lo s)) ∧ IsS186 w0 w' g hi lo s ∧ Below w0.heap.size w0 w' :=
  (strconv_uscale.calls x g hi lo s _ _ _ _ w0 w hI hB (usc_f x hi lo s)).mono fun _ _ ⟨a, b, c, _⟩ => ⟨a, b, c⟩
end Go.Proofs.YtjleceekccehoaaGreatDoor.Pr
end

section
set_option linter.unusedVariables false
set_option linter.unusedSimpArgs false
namespace Go.Proofs.YtjleceekccehoaaGreatDoor.Pr
open Go.RowKit Go.Proofs.YtjleceekccehoaaGreatDoorW.PrintWords Go.Proofs.YtjleceekccehoaaGreatDoorW.PrintLast Go.Proofs.YtjleceekccehoaaGreatDoorW.PrintMore

theorem bits_run (b : Nat) (w : World) : (callFunc 96 #[.float .f64 b]).run Tryz.prog w = .ok (.value (.int .u64 b)) w := by
  rw [run_callFunc_extern Tryz.func96 (by kernel_rfl) (by kernel_rfl) (by kernel_rfl) (e := Extern.MathFloatBits.float64bits) (by kernel_rfl)]; rfl
attribute [local go_sem] bits_run


end Go.Proofs.YtjleceekccehoaaGreatDoor.Pr
end

section
set_option linter.unusedVariables false
set_option linter.unusedSimpArgs false
namespace Go.Proofs.YtjleceekccehoaaGreatDoor.Pr
open Go.RowKit Go.Proofs.YtjleceekccehoaaGreatDoorW.PrintWords Go.Proofs.YtjleceekccehoaaGreatDoorW.PrintLast Go.Proofs.YtjleceekccehoaaGreatDoorW.PrintMore
attribute [local go_sem] bits_run

theorem St.below {w0 w w1 : World} {gs : Option Nat} {v : Value} {l : List Int} {ds : List Int} (h : St w0 gs ds w v l) (hb : Below w.heap.size w w1) : St w0 gs ds w1 v l :=
  ⟨Kd.R_below h.row hb, fun g hg => (hb.block g (h.src g hg).lt).trans (h.src g hg), below_step h.bel hb⟩
end Go.Proofs.YtjleceekccehoaaGreatDoor.Pr
end

section
-- Written by a program of this session (wip/hook.py) out of the translation. Not trusted: Lean checks it.
namespace Go.Proofs.YtjleceekccehoaaGreatDoor.Pr
open Go.RowKit Go.Proofs.YtjleceekccehoaaGreatDoorW.PrintWords Go.Proofs.YtjleceekccehoaaGreatDoorW.PrintLast Go.Proofs.YtjleceekccehoaaGreatDoorW.PrintMore
attribute [local go_sem] max2_int min2_int max_two min_two max_three min_three max_four min_four   -- for this text's walks alone
set_option linter.unusedVariables false
set_option linter.unusedSimpArgs false

/-! ### soundingsref04_IsNone: function 25 -/
def soundingsref04_IsNone.f (a0 : Int) : Option (Bool) := if (Int.tmod (IntKind.u64.wrap (Int.tdiv a0 4503599627370496)) 2048) = 2047 then (some ((Int.tmod a0 4503599627370496) != 0)) else (some false)
set_option maxHeartbeats 8000000 in
set_option maxRecDepth 100000 in
theorem soundingsref04_IsNone.calls (a0 : Int) (r : Bool) (w : World) (h : soundingsref04_IsNone.f a0 = some r) :
    Calls Tryz.prog 25 #[.int .u64 a0] w fun e w' => e = .returned (.bool r) ∧ Drawn0 w w' := by
  have H : (if (Int.tmod (IntKind.u64.wrap (Int.tdiv a0 4503599627370496)) 2048) = 2047 then (some ((Int.tmod a0 4503599627370496) != 0)) else (some false)) = some r := h
  clear h
  by_cases c2 : (Int.tmod (IntKind.u64.wrap (Int.tdiv a0 4503599627370496)) 2048) = 2047
  · rw [if_pos c2] at H
    have c2b0 : ((Int.tmod (IntKind.u64.wrap (Int.tdiv a0 4503599627370496)) 2048) == 2047) = true := beq_iff_eq.mpr c2
    have c2b1 : ((Int.tmod (IntKind.u64.wrap (Int.tdiv a0 4503599627370496)) 2048) != 2047) = false := bne_eq_false_iff_eq.mpr c2
    clear c2
    obtain rfl := Option.some.inj H
    go_enter Tryz.func25, Tryz.ntmps25
    go_wp2
    go_ret
    exact ⟨by first | rfl | (simp; done) | (simp [*]; done), by repeat (first | exact Drawn0.refl _ | apply Drawn0.step)⟩
  · rw [if_neg c2] at H
    have c2b0 : ((Int.tmod (IntKind.u64.wrap (Int.tdiv a0 4503599627370496)) 2048) == 2047) = false := beq_eq_false_iff_ne.mpr c2
    have c2b1 : ((Int.tmod (IntKind.u64.wrap (Int.tdiv a0 4503599627370496)) 2048) != 2047) = true := bne_iff_ne.mpr c2
    obtain rfl := Option.some.inj H
    go_enter Tryz.func25, Tryz.ntmps25
    go_wp2
    go_ret
    exact ⟨by first | rfl | (simp; done) | (simp [*]; done), by repeat (first | exact Drawn0.refl _ | apply Drawn0.step)⟩

end Go.Proofs.YtjleceekccehoaaGreatDoor.Pr
end

section
set_option linter.unusedVariables false
set_option linter.unusedSimpArgs false
namespace Go.Proofs.YtjleceekccehoaaGreatDoor.Pr
open Go.RowKit Go.Proofs.YtjleceekccehoaaGreatDoorW.PrintWords Go.Proofs.YtjleceekccehoaaGreatDoorW.PrintLast Go.Proofs.YtjleceekccehoaaGreatDoorW.PrintMore
attribute [local go_sem] max2_int min2_int max_two min_two

end Go.Proofs.YtjleceekccehoaaGreatDoor.Pr
end
