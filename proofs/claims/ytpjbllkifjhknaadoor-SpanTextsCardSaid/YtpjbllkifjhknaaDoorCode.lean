/- soundingslaw01.Code: the number of an error. -/
import Derived.Test.YtpjbllkifjhknaaDoorAs
set_option linter.unusedVariables false
set_option linter.unusedSimpArgs false
namespace Go.Proofs.YtpjbllkifjhknaaDoor.Pr
open Go.RowKit Go.Proofs.YtpjbllkifjhknaaDoorW.PrintWords Go.Proofs.YtpjbllkifjhknaaDoorW.PrintLast Go.Proofs.YtpjbllkifjhknaaDoorW.PrintMore

/-- The variable errors.errorType holds what its initialiser laid. -/
def LaidE (w : World) : Prop := w.cell? ⟨1, 0, none⟩ = some (.iface 77 (.agg #[.pointer (some ⟨8, 24, none⟩)]))
theorem LaidE.below {w w' : World} (h : LaidE w) (hb : Below w.heap.size w w') : LaidE w' := pw_cell_below hb h
theorem LaidE.alloc {w : World} (h : LaidE w) (o : Obj) : LaidE (w.alloc o) := h.below (below_alloc (Below.refl _ _) _)
theorem LaidE.drewN {w : World} (h : LaidE w) (n : Nat) : LaidE (w.drewN n) := h

theorem code_nil (w : World) : Calls Tryd.prog 9 #[.nilIface] w fun e w' => e = .returned (.int .i64 0) ∧ Below w.heap.size w w' := by
  go_enter Tryd.func9, Tryd.ntmps9
  go_wp2
  go_ret
  exact ⟨rfl, Below.refl _ _⟩
theorem code_hit (n : Int) (hn : 0 < n) (w : World) (hL : LaidE w) : Calls Tryd.prog 9 #[.iface 38 (.int .i64 n)] w fun e w' => e = .returned (.int .i64 n) ∧ Below w.heap.size w w' := by
  go_enter Tryd.func9, Tryd.ntmps9
  go_wp2_with (go_at_call 16; refine (as_hit n _ (.int .i64 0) _ (hL.alloc _) (by simp) (by simp)).mono ?_; rintro e w' ⟨rfl, rfl⟩)
  go_ret
  exact ⟨rfl, below_alloc (below_alloc (below_alloc (below_alloc (below_alloc (Below.refl _ _) _) _) _) _) _⟩
end Go.Proofs.YtpjbllkifjhknaaDoor.Pr
