/- Texts of this session, cut down to what one claim needs and joined: FfParse1, FfVal. -/
import Derived.Test.YtjleceekccehoaaGreatDoorVGJ1
import Derived.Test.YtjleceekccehoaaGreatDoorVGFk
import Derived.WalkMore
import Derived.Deep.QuietTactic
import Derived.BigQuiet
import Derived.WalkSpells
import Derived.WalkLawsBesides
import Derived.Test.YtjleceekccehoaaGreatDoorVGJ2
section
set_option linter.unusedVariables false
set_option linter.unusedSimpArgs false
namespace Go.Proofs.YtjleceekccehoaaGreatDoor.Pr
open Go.RowKit Go.Proofs.Fl Go.Proofs.YtjleceekccehoaaGreatDoorW.PrintWords Go.Proofs.YtjleceekccehoaaGreatDoorW.PrintLast Go.Proofs.YtjleceekccehoaaGreatDoorW.PrintMore

/-- What ParseFloat asks at a small number. -/
structure LaidG (w : World) : Prop where
 opt : w.cell? ⟨2, 0, none⟩ = some (.bool true)
 bits : w.cell? ⟨13, 0, none⟩ = some (.int .u64 52)
 pow : ∃ (a : Addr) (c : Nat), w.cell? ⟨18, 0, none⟩ = some (.slice (some a) 23 c) ∧ 23 ≤ c ∧ w.cell? ⟨a.block, a.off + 3, none⟩ = some (.float .f64 4652007308841189376)
theorem LaidG.below {w w' : World} (h : LaidG w) (hb : Below w.heap.size w w') : LaidG w' := by
 obtain ⟨a, c, h1, h2, h3⟩ := h.pow
 exact ⟨pw_cell_below hb h.opt, pw_cell_below hb h.bits, a, c, pw_cell_below hb h1, h2, pw_cell_below hb h3⟩
theorem frombits2_run (v : Int) (w : World) : (callFunc 162 #[.int .u64 v]).run Tryz.prog w = .ok (.value (.float .f64 v.toNat)) w := by
 rw [run_callFunc_extern Tryz.func162 (by kernel_rfl) (by kernel_rfl) (by kernel_rfl) (e := Extern.MathFloatBits.float64frombits) (by kernel_rfl)]; rfl
def b2u (b : Bool) : Int := if b = true then 1 else 0
theorem b2u_any (b : Bool) (w : World) : Calls Tryz.prog 161 #[.bool b] w fun e w' => e = .returned (.int .u64 (b2u b)) ∧ Drawn0 w w' := strconv_bool2_uint64.calls b _ w (by cases b <;> rfl)
end Go.Proofs.YtjleceekccehoaaGreatDoor.Pr
end

section
set_option linter.unusedVariables false
set_option linter.unusedSimpArgs false
namespace Go.Proofs.YtjleceekccehoaaGreatDoor.Pr
open Go.RowKit Go.Proofs.YtjleceekccehoaaGreatDoorW.PrintWords Go.Proofs.YtjleceekccehoaaGreatDoorW.PrintLast Go.Proofs.YtjleceekccehoaaGreatDoorW.PrintMore

theorem fbits_run (b : Nat) (w : World) : (callFunc 37 #[.float .f64 b]).run Tryz.prog w = .ok (.value (.int .u64 b)) w := by
 rw [run_callFunc_extern Tryz.func37 (by kernel_rfl) (by kernel_rfl) (by kernel_rfl) (e := Extern.MathFloatBits.float64bits) (by kernel_rfl)]; rfl
attribute [local go_sem] fbits_run
end Go.Proofs.YtjleceekccehoaaGreatDoor.Pr
end
