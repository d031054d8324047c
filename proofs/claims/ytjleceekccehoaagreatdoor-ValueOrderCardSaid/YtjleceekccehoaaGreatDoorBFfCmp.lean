/- Texts of this session, cut down to what one claim needs and joined: FfCmp. -/
import Derived.Test.YtjleceekccehoaaGreatDoorBFfFmt
import Derived.Test.YtjleceekccehoaaGreatDoorBFfVal
import Derived.Test.YtjleceekccehoaaGreatDoorBGFk
import Derived.Test.YtjleceekccehoaaGreatDoorBPrValueSame
import Derived.Test.YtjleceekccehoaaGreatDoorBPrSoundingsref04Norm
import Derived.WalkLawsBesides
set_option linter.unusedVariables false
set_option linter.unusedSimpArgs false
namespace Go.Proofs.YtjleceekccehoaaGreatDoor.Pr
open Go.RowKit Go.Proofs.Fl Go.Proofs.YtjleceekccehoaaGreatDoorW.PrintWords Go.Proofs.YtjleceekccehoaaGreatDoorW.PrintLast Go.Proofs.YtjleceekccehoaaGreatDoorW.PrintMore
attribute [local go_sem] frombits_run

theorem same_any (a b : Int) (w : World) : Calls Tryz.prog 12 #[.int .u64 a, .int .u64 b] w fun e w' => e = .returned (.bool (normI a == normI b)) ∧ Drawn0 w w' :=
  value_Same.calls a b _ w rfl
def cmpF (x y : Nat) : Int := if isN x = true then (if isN y = true then 0 else -1) else if isN y = true then 1 else if (Ieee.double.order x y == some .lt) = true then -1 else if (Ieee.double.order x y == some .gt) = true then 1 else 0
theorem cIsNaN_any (x : Nat) (w : World) : Calls Tryz.prog 43 #[.float .f64 x] w fun e w' => e = .returned (.bool (isN x)) ∧ w = w' := by
  go_enter Tryz.func43, Tryz.ntmps43
  go_wp2
  go_ret
  exact ⟨by rw [← isN_order]; rfl, rfl⟩
set_option maxHeartbeats 1000000 in
theorem compare_any (x y : Nat) (w : World) : Calls Tryz.prog 28 #[.float .f64 x, .float .f64 y] w fun e w' => e = .returned (.int .i64 (cmpF x y)) ∧ w = w' := by
  unfold cmpF
  cases hx : isN x <;> cases hy : isN y <;> cases hl : (FloatKind.f64.format.order x y == some .lt) <;> cases hg : (FloatKind.f64.format.order x y == some .gt)
  all_goals
    have hl' : (Ieee.double.order x y == some .lt) = _ := hl
    have hg' : (Ieee.double.order x y == some .gt) = _ := hg
    rw [hl', hg']
    have HX := Aside0.mk hx
    have HY := Aside0.mk hy
    clear hl' hg' hx hy
    go_enter Tryz.func28, Tryz.ntmps28
    go_wp2_with (first | (go_at_call 43; refine (cIsNaN_any _ _).mono ?_; (first | rw [HX.out] | rw [HY.out]); rintro e w' ⟨rfl, rfl⟩))
    go_ret
    exact ⟨rfl, rfl⟩
theorem cmp_any (a b : Int) (w : World) : Calls Tryz.prog 13 #[.int .u64 a, .int .u64 b] w fun e w' => e = .returned (.int .i64 (cmpF a.toNat b.toNat)) ∧ w = w' := by
  go_enter Tryz.func13, Tryz.ntmps13
  go_wp2_with (first | (go_at_call 28; refine (compare_any _ _ _).mono ?_; rintro e w' ⟨rfl, rfl⟩))
  go_ret
  exact ⟨rfl, rfl⟩
def txt (v : Int) : ByteArray := strOfNums (textV v.toNat)
theorem text_any (v : Int) (h0 : 0 ≤ v) (h1 : v ≤ 18446744073709551615) (w : World) (hL : LaidF w) : Calls Tryz.prog 15 #[.int .u64 v] w fun e w' => e = .returned (.string (txt v)) ∧ Below w.heap.size w w' := by
  go_enter Tryz.func15, Tryz.ntmps15
  go_wp2_with (first | (go_at_call 30; refine (format_any v.toNat (by omega) _ hL).mono ?_; rintro e w' ⟨rfl, hb⟩; have HB := Aside0.mk hb; clear hb))
  go_ret
  exact ⟨rfl, HB.out⟩
end Go.Proofs.YtjleceekccehoaaGreatDoor.Pr
