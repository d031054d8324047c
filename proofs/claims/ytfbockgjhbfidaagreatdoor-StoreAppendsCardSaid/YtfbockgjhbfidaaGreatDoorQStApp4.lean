/- Texts of this session, cut down to what one claim needs and joined: StApp4. -/
import Derived.Test.YtfbockgjhbfidaaGreatDoorQStApp3
set_option linter.unusedVariables false
set_option linter.unusedSimpArgs false
namespace Go.Proofs.YtfbockgjhbfidaaGreatDoor.Pr
open Go.RowKit Go.Proofs.YtfbockgjhbfidaaGreatDoorW.PrintWords Go.Proofs.YtfbockgjhbfidaaGreatDoorW.PrintLast Go.Proofs.YtfbockgjhbfidaaGreatDoorW.PrintMore

theorem rd_last (l : List S26) (h : 0 < l.length) : rd_T26 l ((l.length : Int) - 1) = l.getLastD z26 := by
 unfold rd_T26
 rw [show ((l.length : Int) - 1).toNat = l.length - 1 by omega, List.getD_eq_getElem?_getD, List.getLastD_eq_getLast?, List.getLast?_eq_getElem?]
theorem append_any (A0 : Option Addr) (c0 : Nat) (s : List S47) (A1 : Option Addr) (c1 : Nat) (l : List S44) (t v : Int) (w : World) (hL : LaidAll w) (hr0 : Kd.C k47 w A0 s.length s) (hc0 : s.length ≤ c0) (hr1 : Kd.C k44 w A1 l.length l) (hc1 : l.length ≤ c1) (ho : okS s) (hl : smallL l) :
  Calls Tryz.prog 8 #[.slice A0 s.length c0, .slice A1 l.length c1, .agg #[.int .i64 t, .int .u64 v]] w (AppPost w (appendV s l t v)) := by
 unfold appendV
 by_cases hr : RightP s
 ·rw [if_pos hr]
  rcases makeV_two (sortL l) with ⟨e, _, _⟩ | e
  ·have hm : makeV (sortL l) = ((makeV (sortL l)).1, none) := by rw [← e]
   simp only [e]
   generalize hM : (makeV (sortL l)).1 = m at *
   by_cases h0 : m.length = 0
   ·rw [if_pos h0]
    exact append_empty A0 c0 s A1 c1 l t v w hL hr0 hc0 hr1 hc1 ho hl hr m hm h0
   ·rw [if_neg h0]
    by_cases ht : TimP t
    ·rw [if_pos ht]
     unfold putV
     cases hf : firstFrom (eqP m) s 0 with
     | none =>
      exact append_new A0 c0 s A1 c1 l t v w hL hr0 hc0 hr1 hc1 ho hl hr m hm (by omega) ht (by unfold findV; rw [hf])
     | some i =>
      have hi : i < s.length := by have := (firstFrom_some (eqP m) s 0 i hf).2.1; omega
      have hfv : findV s m = ((i : Int), true) := by unfold findV; rw [hf]
      have hx : rd_T47 s (i : Int) = s.getD i z47 := by unfold rd_T47; rw [Int.toNat_natCast]
      have hlong : 0 < (rd_T47 s (i : Int)).f1.length := by
       rw [rdX_at s i hi]
       exact (hr.1 _ (List.getElem_mem hi)).2.2.1
      have hq := rd_last _ hlong
      dsimp only
      rw [← hx, ← hq]
      by_cases hg : (rd_T26 (rd_T47 s (i : Int)).f1 (((rd_T47 s (i : Int)).f1.length : Int) - 1)).f0 ≥ t
      ·simp only [hg, if_true]
       exact append_late A0 c0 s A1 c1 l t v w hL hr0 hc0 hr1 hc1 ho hl hr m hm i hi (by omega) ht hfv hg
      ·simp only [hg, if_false]
       exact append_more A0 c0 s A1 c1 l t v w hL hr0 hc0 hr1 hc1 ho hl hr m hm i hi (by omega) ht hfv hg
    ·rw [if_neg ht]
     exact append_time A0 c0 s A1 c1 l t v w hL hr0 hc0 hr1 hc1 ho hl hr m hm (by omega) ht
  ·simp only [e]
   exact append_bad A0 c0 s A1 c1 l t v w hL hr0 hc0 hr1 hc1 ho hl hr 1 e
 ·rw [if_neg hr]
  exact append_wrong A0 c0 s A1 c1 l t v w hL hr0 hc0 ho hr
end Go.Proofs.YtfbockgjhbfidaaGreatDoor.Pr
