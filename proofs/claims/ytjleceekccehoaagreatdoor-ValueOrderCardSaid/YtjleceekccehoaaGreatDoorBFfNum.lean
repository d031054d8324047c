/- Texts of this session, cut down to what one claim needs and joined: FfNum. -/
import Derived.Test.YtjleceekccehoaaGreatDoorBFfBase
import Derived.Test.YtjleceekccehoaaGreatDoorBGOrd
import Derived.Test.YtjleceekccehoaaGreatDoorBGAs
import Derived.Test.YtjleceekccehoaaGreatDoorBPrStrconvUscale
import Derived.Test.YtjleceekccehoaaGreatDoorBPrStrconvLog10Pow2
import Derived.Test.YtjleceekccehoaaGreatDoorBPrStrconvLog2Pow10
import Derived.Test.YtjleceekccehoaaGreatDoorBPrStrconvSkewed
import Derived.Test.YtjleceekccehoaaGreatDoorBPrStrconvBool2Int
import Derived.Test.YtjleceekccehoaaGreatDoorBPrStrconvUnroundedNudge
import Derived.Test.YtjleceekccehoaaGreatDoorBPrStrconvUnroundedCeil
import Derived.Test.YtjleceekccehoaaGreatDoorBPrStrconvUnroundedFloor
import Derived.Test.YtjleceekccehoaaGreatDoorBPrStrconvUnroundedRound
import GoSem.PinnedTables
import Derived.Deep.QuietTactic
import Derived.BigQuiet
set_option linter.unusedVariables false
set_option linter.unusedSimpArgs false
namespace Go.Proofs.YtjleceekccehoaaGreatDoor.Pr
open Go.RowKit Go.Proofs.YtjleceekccehoaaGreatDoorW.PrintWords Go.Proofs.YtjleceekccehoaaGreatDoorW.PrintLast Go.Proofs.YtjleceekccehoaaGreatDoorW.PrintMore

def p10 (i : Nat) : Int := ((10 ^ i : Nat) : Int)
def hiT (i : Nat) : Int := ((Go.Pinned.pow10Rows.getD i (0, 0)).1 : Nat)
def loT (i : Nat) : Int := ((Go.Pinned.pow10Rows.getD i (0, 0)).2 : Nat)
/-- What strconv's tables hold. -/
structure LaidF (w : World) : Prop where
  pow : ∀ i, i < 20 → w.cell? ⟨9, i, none⟩ = some (.int .u64 (p10 i))
  hi : ∀ i, i < 696 → w.cell? ⟨14, i * 2, none⟩ = some (.int .u64 (hiT i))
  lo : ∀ i, i < 696 → w.cell? ⟨14, i * 2 + 1, none⟩ = some (.int .u64 (loT i))
theorem LaidF.below {w w' : World} (h : LaidF w) (hb : Below w.heap.size w w') : LaidF w' :=
  ⟨fun i hi => pw_cell_below hb (h.pow i hi), fun i hi => pw_cell_below hb (h.hi i hi), fun i hi => pw_cell_below hb (h.lo i hi)⟩

def len64 (x : Int) : Int := (Lib.bitLen x.toNat : Nat)
theorem len_any (x : Int) (h0 : 0 ≤ x) (h1 : x ≤ 18446744073709551615) (w : World) : Calls Tryz.prog 100 #[.int .u64 x] w fun e w' => e = .returned (.int .i64 (len64 x)) ∧ w = w' :=
  (Any.bits_Len64 Tryz.lays129 x w h0 h1).mono fun _ _ ⟨a, b⟩ => ⟨a, b.symm⟩
def l10 (x : Int) : Int := wrap64 (x * 78913) / 262144
def l2 (x : Int) : Int := wrap64 (x * 108853) / 32768
def skw (x : Int) : Int := wrap64 (wrap64 (x * 631305) - 261663) / 2097152
theorem l10_any (x : Int) (w : World) : Calls Tryz.prog 104 #[.int .i64 x] w fun e w' => e = .returned (.int .i64 (l10 x)) ∧ Drawn0 w w' := strconv_log10Pow2.calls x _ w rfl
theorem l2_any (x : Int) (w : World) : Calls Tryz.prog 132 #[.int .i64 x] w fun e w' => e = .returned (.int .i64 (l2 x)) ∧ Drawn0 w w' := strconv_log2Pow10.calls x _ w rfl
theorem skw_any (x : Int) (w : World) : Calls Tryz.prog 130 #[.int .i64 x] w fun e w' => e = .returned (.int .i64 (skw x)) ∧ Drawn0 w w' := strconv_skewed.calls x _ w rfl
def b2i (b : Bool) : Int := if b = true then 1 else 0
theorem b2i_any (b : Bool) (w : World) : Calls Tryz.prog 139 #[.bool b] w fun e w' => e = .returned (.int .i64 (b2i b)) ∧ Drawn0 w w' := strconv_bool2_int.calls b _ w (by cases b <;> rfl)

theorem bitLenAux_le (f : Nat) : ∀ x, Lib.bitLenAux f x ≤ f := by
  induction f with
  | zero => intro x; simp [Lib.bitLenAux]
  | succ f ih => intro x; unfold Lib.bitLenAux; split; omega; have := ih (x / 2); omega
theorem len64_bd (x : Int) : 0 ≤ len64 x ∧ len64 x ≤ 64 := by
  have := bitLenAux_le 64 x.toNat
  unfold len64 Lib.bitLen; omega
theorem l10_bd (x : Int) (h0 : 0 ≤ x) (h1 : x ≤ 64) : 0 ≤ l10 x ∧ l10 x ≤ 19 := by
  have e : wrap64 (x * 78913) = x * 78913 := by unfold wrap64; omega
  unfold l10; rw [e]; omega
def nDig (d : Int) : Int := l10 (len64 d) + b2i (decide (d ≥ p10 (l10 (len64 d)).toNat))
theorem nDig_bd (d : Int) : 0 ≤ nDig d ∧ nDig d ≤ 20 := by
  have h1 := len64_bd d
  have h2 := l10_bd (len64 d) h1.1 h1.2
  unfold nDig b2i; split <;> omega
set_option maxHeartbeats 4000000 in
set_option maxRecDepth 100000 in
theorem numDigits_any (d : Int) (h0 : 0 ≤ d) (h1 : d ≤ 18446744073709551615) (w : World) (hL : LaidF w) :
    Calls Tryz.prog 103 #[.int .u64 d] w fun e w' => e = .returned (.int .i64 (nDig d)) ∧ Drawn0 w w' := by
  have b1 := len64_bd d
  have b2 := l10_bd (len64 d) b1.1 b1.2
  obtain ⟨q, hq⟩ : ∃ q, q = l10 (len64 d) := ⟨_, rfl⟩
  have HQ := Aside0.mk hq
  have hc := hL.pow q.toNat (by omega)
  rw [← hq] at b2
  have z0 : 0 ≤ q := b2.1
  have z1 : q < 20 := by omega
  have z2 : 0 ≤ b2i (decide (d ≥ p10 q.toNat)) ∧ b2i (decide (d ≥ p10 q.toNat)) ≤ 1 := by unfold b2i; split <;> omega
  have z3 : wrap64 (q + b2i (decide (d ≥ p10 q.toNat))) = q + b2i (decide (d ≥ p10 q.toNat)) := by unfold wrap64; omega
  have HN : Aside0 (nDig d = q + b2i (decide (d ≥ p10 q.toNat))) := ⟨by unfold nDig; rw [← hq]⟩
  have Z3 := Aside0.mk z3
  clear hq b1 b2 z2 z3
  go_enter Tryz.func103, Tryz.ntmps103
  go_wp2_with (first | (go_at_call 100; refine (len_any _ h0 h1 _).mono ?_; rintro e w' ⟨rfl, rfl⟩) | (go_at_call 104; refine (l10_any _ _).mono ?_; rw [← HQ.out]; rintro e w' ⟨rfl, ⟨m, rfl⟩⟩) | (go_at_call 139; refine (b2i_any _ _).mono ?_; rintro e w' ⟨rfl, ⟨m2, rfl⟩⟩))
  go_ret
  exact ⟨by rw [HN.out]; exact congrArg Ending.returned (congrArg (Value.int .i64) Z3.out), by repeat (first | exact Drawn0.refl _ | apply Drawn0.step)⟩

def preS (e lp : Int) : Int := wrap64 (-wrap64 (wrap64 (e + lp) + 3))
set_option maxHeartbeats 4000000 in
set_option maxRecDepth 100000 in
theorem prescale_any (g : Nat) (s0 s1 s2 : Int) (e p lp : Int) (h0 : 0 ≤ p + 348) (h1 : p + 348 < 696) (w0 w : World) (hI : IsS186 w0 w g s0 s1 s2) (hB : Below w0.heap.size w0 w) (hL : LaidF w0) :
    Calls Tryz.prog 131 #[.pointer (some ⟨g, 0, none⟩), .int .i64 e, .int .i64 p, .int .i64 lp] w fun e_ w' => e_ = .returned (.tuple #[]) ∧ IsS186 w0 w' g (hiT (p + 348).toNat) (loT (p + 348).toNat) (preS e lp) ∧ Below w0.heap.size w0 w' := by
  obtain ⟨q, hq⟩ : ∃ q, q = p + 348 := ⟨_, rfl⟩
  have hc1 := hL.hi q.toNat (by omega)
  have hc2 := hL.lo q.toNat (by omega)
  have lt1 := World.block_lt_of_cell? w0 _ hc1
  replace hc1 := pw_cell_below hB hc1
  replace hc2 := pw_cell_below hB hc2
  have hge := hI.ge
  have hne : ¬ g = 14 := by
    intro he; rw [he] at hge; simp at lt1; omega
  have z0 : 0 ≤ q := by omega
  have z1 : q < 696 := by omega
  have z2 : IntKind.i64.wrap (p - (-348)) = q := by rw [IntWalk.i64_in _ (by omega)]; omega
  have z3 : IntKind.i64.wrap (p + 348) = q := by rw [IntWalk.i64_in _ (by omega)]; omega
  obtain ⟨HG, hg⟩ := hI
  have x0 := cellS186_0 HG
  have x1 := cellS186_1 HG
  have x2 := cellS186_2 HG
  have f0 := (Blk.frozen (w := w) (g := g) (t := 186) HG)
  have k0 := f0 0
  have k1 := f0 1
  have k2 := f0 2
  have HI : Aside0 (IsS186 w0 w g s0 s1 s2) := ⟨⟨HG, hg⟩⟩
  have HB := Aside0.mk hB
  rw [← hq]
  clear HG hg hB f0 hL hge lt1 hq h0 h1
  go_enter Tryz.func131, Tryz.ntmps131
  go_wp2
  go_end0
  exact ⟨rfl, ((HI.out.set_0 _).set_1 _).set_2 _, below_set (below_set (below_set HB.out (IsS186.ge HI.out)) (IsS186.ge HI.out)) (IsS186.ge HI.out)⟩

/-- What uscale returns. -/
def usc (x hi lo s : Int) : Int := ((strconv_uscale.f x hi lo s).map (·.1)).getD 0
theorem and63 (s : Int) : 0 ≤ Go.bits .and .i64 s 63 := by
  have h : ((BitVec.ofInt 64 s) &&& (BitVec.ofInt 64 63)).toNat ≤ 63 := by rw [BitVec.toNat_and]; exact Nat.and_le_right
  show 0 ≤ IntKind.i64.wrap (((BitVec.ofInt 64 s) &&& (BitVec.ofInt 64 63)).toNat : Nat)
  rw [IntWalk.i64_in _ (by omega)]; omega
theorem usc_f (x hi lo s : Int) : strconv_uscale.f x hi lo s = some (usc x hi lo s, hi, lo, s) := by
  have h63 := and63 s
  have hb : ∀ b, strconv_bool2_uint64.f b = some (if b = true then 1 else 0) := by intro b; cases b <;> rfl
  have hm : ∀ a b, ∃ r, bits_Mul64.f a b = some r := fun a b => ⟨_, rfl⟩
  unfold usc strconv_uscale.f
  simp only [if_pos h63, hb, Option.bind_some]
  obtain ⟨r1, e1⟩ := hm x hi
  obtain ⟨r2, e2⟩ := hm x lo
  rw [e1, e2]
  simp only [Option.bind_some]
  split <;> rfl
theorem uscale_any (x : Int) (g : Nat) (hi lo s : Int) (w0 w : World) (hI : IsS186 w0 w g hi lo s) (hB : Below w0.heap.size w0 w) :
    Calls Tryz.prog 133 #[.int .u64 x, .pointer (some ⟨g, 0, none⟩)] w fun e w' => e = .returned (.int .u64 (usc x hi lo s)) ∧ IsS186 w0 w' g hi lo s ∧ Below w0.heap.size w0 w' :=
  (strconv_uscale.calls x g hi lo s _ _ _ _ w0 w hI hB (usc_f x hi lo s)).mono fun _ _ ⟨a, b, c, _⟩ => ⟨a, b, c⟩
end Go.Proofs.YtjleceekccehoaaGreatDoor.Pr
