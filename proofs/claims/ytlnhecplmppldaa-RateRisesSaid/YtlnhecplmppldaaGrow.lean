import Derived.Test.YtlnhecplmppldaaFl
import Derived.Test.YtlnhecplmppldaaPrRateMay
import Derived.Deep.DeepCutAuto
import Derived.RegionTactic
import Derived.BigRegion
set_option linter.unusedVariables false
set_option linter.unusedSimpArgs false
namespace Go.Proofs.Ytlnhecplmppldaa.Pr
open Go.RowKit Go.Proofs.Fl Go.Proofs.YtlnhecplmppldaaW.PrintWords Go.Proofs.YtlnhecplmppldaaW.PrintLast Go.Proofs.YtlnhecplmppldaaW.PrintMore
attribute [local go_sem] frombits_run bits_run

theorem isN_order (x : Nat) : (Ieee.double.order x x != some .eq) = isN x := by
  unfold isN dRead Ieee.Format.order
  cases Ieee.double.read x with
  | nan s t => rfl
  | infinity s => cases s <;> rfl
  | number s m e => simp [Ieee.Datum.order, Ieee.Datum.isNaN]

theorem isNaN_any (x : Nat) (w : World) : Calls Try.prog 42 #[.float .f64 x] w fun e w' => e = .returned (.bool (isN x)) ∧ w = w' := by
  go_enter Try.func42, Try.ntmps42
  go_wp2
  go_ret
  exact ⟨by rw [← isN_order]; rfl, rfl⟩

def normI (v : Int) : Int := if isN v.toNat = true ∧ v ≠ 9218868437227405314 then 9221120237041090561 else v

theorem norm_any (v : Int) (w : World) : Calls Try.prog 31 #[.int .u64 v] w fun e w' => e = .returned (.int .u64 (normI v)) ∧ w = w' := by
  cases hn : isN v.toNat
  · go_enter Try.func31, Try.ntmps31
    go_wp2_with (first | (go_at_call 42; refine (isNaN_any _ _).mono ?_; rw [hn]; rintro e w' ⟨rfl, rfl⟩))
    go_ret
    exact ⟨by simp [normI, hn], rfl⟩
  · by_cases hs : v = 9218868437227405314
    · subst hs
      replace hn : isN 9218868437227405314 = true := hn
      go_enter Try.func31, Try.ntmps31
      go_wp2_with (first | (go_at_call 42; refine (isNaN_any _ _).mono ?_; rw [hn]; rintro e w' ⟨rfl, rfl⟩))
      go_ret
      exact ⟨by simp [normI], rfl⟩
    · have hb : (v != 9218868437227405314) = true := by simpa using hs
      have HS := Aside0.mk hs
      have hn' := Aside0.mk hn
      clear hs hn
      go_enter Try.func31, Try.ntmps31
      go_wp2_with (first | (go_at_call 42; refine (isNaN_any _ _).mono ?_; rw [hn'.out]; rintro e w' ⟨rfl, rfl⟩))
      go_ret
      exact ⟨by simp [normI, hn'.out, HS.out], rfl⟩

def nmRate : ByteArray := ⟨#[114, 97, 116, 101]⟩
def nmInc : ByteArray := ⟨#[105, 110, 99, 114, 101, 97, 115, 101]⟩
def nmDelta : ByteArray := ⟨#[100, 101, 108, 116, 97]⟩
/-- The three names: does it count over falls, is it a rate? -/
def IsName3 (nm : ByteArray) (ct rt : Bool) : Prop := (nm = nmRate ∧ ct = true ∧ rt = true) ∨ (nm = nmInc ∧ ct = true ∧ rt = false) ∨ (nm = nmDelta ∧ ct = false ∧ rt = false)

set_option maxHeartbeats 2000000 in
set_option maxRecDepth 100000 in
theorem grow_not (nm : ByteArray) (ct rt : Bool) (hnm : IsName3 nm ct rt) (A0 : Option Addr) (c0 : Nat) (l0 : List S29) (s t : Int) (k : Nat) (w : World) (hr0 : Kd.C k29 w A0 l0.length l0) (hc0 : l0.length ≤ c0)
    (hm : rate_may.f k l0 s t = some false) :
    Calls Try.prog 10 #[.string nm, .slice A0 l0.length c0, .int .i64 s, .int .i64 t] w fun e w' => e = .returned (.tuple #[.int .u64 0, .bool false]) ∧ Below w.heap.size w w' := by
  have HR0 := Aside0.mk hr0
  have HC0 := Aside0.mk hc0
  have HM := Aside0.mk hm
  clear hr0 hc0 hm
  rcases hnm with ⟨rfl, rfl, rfl⟩ | ⟨rfl, rfl, rfl⟩ | ⟨rfl, rfl, rfl⟩
  all_goals
    simp only [nmRate, nmInc, nmDelta]
    go_enter Try.func10, Try.ntmps10
    go_wp2_with (first | (go_at_call 24; refine (rate_may.calls k _ _ l0 s t false _ HR0.out HC0.out HM.out).mono ?_; rintro e w' ⟨rfl, ⟨nd, rfl⟩⟩))
    go_ret2
    exact ⟨rfl, pw_below_drewN (Below.refl _ _) _⟩


def secF (a b : Int) : Option Nat := fop .quo (nf (floatOfInt .f64 (b - a))) (nf 4652007308841189376)
def gtF (a b : Option Nat) : Bool := match a, b with
  | some x, some y => FloatKind.f64.format.order x y == some .gt
  | _, _ => false
def geF (a b : Option Nat) : Bool := match a, b with
  | some x, some y => FloatKind.f64.format.order x y == some .gt || FloatKind.f64.format.order x y == some .eq
  | _, _ => false
def leastF (x y : Option Nat) : Option Nat := if ltF y x = true then y else x
def moreF (most long mean x : Option Nat) : Option Nat := if ltF x most = true then fop .add long x else fop .add long (fop .quo mean (nf 4611686018427387904))

theorem gtF_nf (x y : Nat) : gtF (nf x) (nf y) = (FloatKind.f64.format.order x y == some .gt) := by
  have h := order_eq x y
  show _ = (Ieee.double.order x y == some .gt)
  rw [← h]
  cases nf x <;> cases nf y <;> rfl
theorem geF_nf (x y : Nat) : geF (nf x) (nf y) = (FloatKind.f64.format.order x y == some .gt || FloatKind.f64.format.order x y == some .eq) := by
  have h := order_eq x y
  show _ = (Ieee.double.order x y == some .gt || Ieee.double.order x y == some .eq)
  rw [← h]
  cases nf x <;> cases nf y <;> rfl

theorem quo_some (x : Nat) (hx : isN x = false) : ∃ r, dOp .quo x 4652007308841189376 = some r := by
  have h1 : Ieee.double.read 4652007308841189376 = .number false 8796093022208000 (-43) := by decide
  unfold dOp floatBits
  show ∃ r, Option.map _ ((Ieee.double.read x).quotient _ (Ieee.double.read 4652007308841189376)) = some r
  rw [h1]
  unfold isN dRead at hx
  cases hd : Ieee.double.read x with
  | nan s t => rw [hd] at hx; simp [Ieee.Datum.isNaN] at hx
  | infinity s => exact ⟨_, rfl⟩
  | number s m e =>
    simp only [Ieee.Datum.quotient]
    rw [if_neg (by decide)]
    exact ⟨_, rfl⟩

theorem ofInt_not (n : Int) : isN (floatOfInt .f64 n) = false := by
  show isN (Ieee.double.write (.number (decide (n < 0)) n.natAbs 0)) = false
  exact write_not _ rfl

theorem seconds_det (a b : Int) (h1 : -9223372036854775808 ≤ b - a) (h2 : b - a ≤ 9223372036854775807) :
    ∃ c, nf c = secF a b ∧ isN c = false ∧ ∀ w : World, Calls Try.prog 26 #[.int .i64 a, .int .i64 b] w fun e w' => e = .returned (.float .f64 c) ∧ w' = w := by
  obtain ⟨r, hr⟩ := quo_some (floatOfInt .f64 (b - a)) (ofInt_not _)
  refine ⟨r, by unfold secF; rw [fop_nf, hr, nf_some hr], dOp_not hr, fun w => ?_⟩
  have hrun := fun w t => run_float_arith (P := Try.prog) w .quo t .f64 (floatOfInt .f64 (b - a)) 4652007308841189376 r hr
  go_enter Try.func26, Try.ntmps26
  go_wp2
  go_ret
  exact ⟨rfl, rfl⟩

theorem more_det (x most long mean : Nat) (a1 a2 a3 : Addr) (w : World) (h1 : w.cell? a1 = some (.float .f64 most)) (h2 : w.cell? a2 = some (.float .f64 long)) (h3 : w.cell? a3 = some (.float .f64 mean)) (hf : w.frozen? a2 = false) :
    Calls Try.prog 30 #[.float .f64 x, .pointer (some a1), .pointer (some a2), .pointer (some a3)] w fun e w' => ∃ c n, e = .returned (.tuple #[]) ∧ w' = (w.setCell a2 (.float .f64 c)).drewN n ∧ nf c = moreF (nf most) (nf long) (nf mean) (nf x) := by
  cases hlt : (FloatKind.f64.format.order x most == some .lt)
  · refine (more_not x most long mean a1 a2 a3 w h1 h2 h3 hf hlt).mono ?_
    rintro e w' ⟨c, n, rfl, rfl, hc⟩
    exact ⟨c, n, rfl, rfl, by rw [hc]; unfold moreF; rw [ltF_nf, hlt]; rfl⟩
  · refine (more_any x most long mean a1 a2 a3 w h1 h2 h3 hf hlt).mono ?_
    rintro e w' ⟨c, n, rfl, rfl, hc⟩
    exact ⟨c, n, rfl, rfl, by rw [hc]; unfold moreF; rw [ltF_nf, hlt]; rfl⟩

theorem least_det (x y : Nat) (w : World) :
    Calls Try.prog 28 #[.float .f64 x, .float .f64 y] w fun e w' => ∃ r : Nat, e = .returned (.float .f64 r) ∧ nf r = leastF (nf x) (nf y) ∧ w = w' := by
  refine (least_any x y w).mono ?_
  rintro e w' ⟨rfl, rfl⟩
  refine ⟨_, rfl, ?_, rfl⟩
  unfold leastF
  rw [ltF_nf]
  split <;> rfl

/-- The growth of points that may grow: its float, a NaN's bits forgotten. -/
def beginF (ct : Bool) (g span b0 v0 : Option Nat) : Option Nat := if (ct && gtF g (nf 0) && geF v0 (nf 0)) = true then leastF b0 (fop .mul span (fop .quo v0 g)) else b0
def growF (ct rt : Bool) (l : List S29) (s t : Int) : Option Nat :=
  let x0 := rd_T29 l 0
  let xm := rd_T29 l ((l.length : Int) - 1)
  let g := gainS ct (vals l)
  let span := secF x0.f0 xm.f0
  let mean := fop .quo span (nf (floatOfInt .f64 ((l.length : Int) - 1)))
  let most := fop .mul mean (nf 4607632778762754458)
  let long := moreF most (moreF most span mean (beginF ct g span (secF s x0.f0) (nf x0.f1.toNat))) mean (secF xm.f0 t)
  let part := fop .quo long span
  fop .mul g (if rt = true then fop .quo part (secF s t) else part)

end Go.Proofs.Ytlnhecplmppldaa.Pr
