/- Texts of this session, cut down to what one claim needs and joined: StApp0. -/
import Derived.Test.YtfbockgjhbfidaaGreatDoorQStFind
import Derived.Test.YtfbockgjhbfidaaGreatDoorQGSt0
import Derived.Test.YtfbockgjhbfidaaGreatDoorQStIns
import Derived.Test.YtfbockgjhbfidaaGreatDoorQGUMk
import Derived.StillTailTactics
set_option linter.unusedVariables false
set_option linter.unusedSimpArgs false
namespace Go.Proofs.YtfbockgjhbfidaaGreatDoor.Pr
open Go.RowKit Go.Proofs.YtfbockgjhbfidaaGreatDoorW.PrintWords Go.Proofs.YtfbockgjhbfidaaGreatDoorW.PrintLast Go.Proofs.YtfbockgjhbfidaaGreatDoorW.PrintMore

attribute [local go_sem] errW_none errW_some
theorem madeLen (l : List S44) : (makeV l).1.length ≤ l.length := by
 rcases makeV_two l with ⟨_, _, e⟩ | e
 ·rw [e]; exact List.length_filter_le _ _
 ·rw [e]; exact Nat.zero_le _
/-- A series of one point. -/
def newS (m : List S44) (t nv : Int) : S47 := ⟨m, [⟨t, nv⟩]⟩
/-- The store with one series more. -/
def putN (s : List S47) (m : List S44) (t nv : Int) : List S47 := s.take (lessN s m) ++ [newS m t nv] ++ s.drop (lessN s m)
/-- The store with one point more at the i-th series. -/
def putM (s : List S47) (i : Nat) (t nv : Int) : List S47 := s.set i ⟨(s.getD i z47).f0, (s.getD i z47).f1 ++ [⟨t, nv⟩]⟩
theorem putM_len (s : List S47) (i : Nat) (t nv : Int) : (putM s i t nv).length = s.length := List.length_set
/-- What Append does with labels that are made, at a place that Find tells. -/
def putV (s : List S47) (m : List S44) (t v : Int) : List S47 × Option Int :=
 match firstFrom (eqP m) s 0 with
 | none => (putN s m t (normI v), none)
 | some i => if ((s.getD i z47).f1.getLastD z26).f0 ≥ t then ([], some 3) else (putM s i t (normI v), none)
def appendV (s : List S47) (l : List S44) (t v : Int) : List S47 × Option Int :=
 if RightP s then
  match (makeV (sortL l)).2 with
  | some c => ([], some c)
  | none => if (makeV (sortL l)).1.length = 0 then ([], some 1) else if TimP t then putV s (makeV (sortL l)).1 t v else ([], some 4)
 else ([], some 3)
/-- What is told behind a call of Append. -/
def AppPost (w : World) (r : List S47 × Option Int) (e : Ending) (w' : World) : Prop :=
 ∃ (A : Option Addr) (c : Nat), e = .returned (.tuple #[.slice A r.1.length c, errW r.2]) ∧ r.1.length ≤ c ∧ Kd.C k47 w' A r.1.length r.1 ∧ Below w.heap.size w w'
theorem C_none (w : World) (c : Nat) : Kd.C k47 w none 0 [] := ⟨rfl, by decide, fun h => absurd h (by decide)⟩
theorem AppPost.no {w w' : World} {n : Int} (hb : Below w.heap.size w w') : AppPost w ([], some n) (.returned (.tuple #[.slice none 0 0, errW (some n)])) w' := ⟨none, 0, rfl, Nat.le_refl _, C_none _ 0, hb⟩

section
variable (A0 : Option Addr) (c0 : Nat) (s : List S47) (A1 : Option Addr) (c1 : Nat) (l : List S44) (t v : Int) (w : World)
set_option maxHeartbeats 4000000 in
set_option maxRecDepth 100000 in
theorem append_wrong (hL : LaidAll w) (hr0 : Kd.C k47 w A0 s.length s) (hc0 : s.length ≤ c0) (ho : okS s) (hr : ¬ RightP s) :
  Calls Tryz.prog 8 #[.slice A0 s.length c0, .slice A1 l.length c1, .agg #[.int .i64 t, .int .u64 v]] w (AppPost w ([], some 3)) := by
 have hRt := rightS_some s ho
 rw [decide_eq_false hr] at hRt
 have HR := Aside0.mk (fun w1 (hb1 : Below w.heap.size w w1) => store_Right.calls (s.length + 1000003) A0 c0 s _ w1 ⟨hL.below hb1⟩ (Kd.C_below hr0 hb1) hc0 hRt)
 clear hL hr0 hc0 ho hr hRt
 go_enter Tryz.func8, Tryz.ntmps8
 go_wp2_with (go_at_call 14; refine (HR.out _ (by repeat (first | exact Below.refl _ _ | apply below_alloc | apply pw_below_drewN | apply below_drew1))).mono ?_; rintro e w2 ⟨rfl, hb2⟩)
 go_ret2
 exact AppPost.no (below_step (by repeat (first | exact Below.refl _ _ | apply below_alloc | apply pw_below_drewN | apply below_drew1)) hb2)
set_option maxHeartbeats 4000000 in
set_option maxRecDepth 100000 in
theorem append_bad (hL : LaidAll w) (hr0 : Kd.C k47 w A0 s.length s) (hc0 : s.length ≤ c0) (hr1 : Kd.C k44 w A1 l.length l) (hc1 : l.length ≤ c1) (ho : okS s) (hl : smallL l) (hr : RightP s) (c : Int) (hm : makeV (sortL l) = ([], some c)) :
  Calls Tryz.prog 8 #[.slice A0 s.length c0, .slice A1 l.length c1, .agg #[.int .i64 t, .int .u64 v]] w (AppPost w ([], some c)) := by
 have hRt := rightS_some s ho
 rw [decide_eq_true hr] at hRt
 have HR := Aside0.mk (fun w1 (hb1 : Below w.heap.size w w1) => store_Right.calls (s.length + 1000003) A0 c0 s _ w1 ⟨hL.below hb1⟩ (Kd.C_below hr0 hb1) hc0 hRt)
 have hMk : label_Make.f l = some ([], some c) := by rw [small_dec l hl, hm]
 have HM := Aside0.mk (fun w1 (hb1 : Below w.heap.size w w1) => label_Make.calls A1 c1 l _ _ w1 (Kd.C_below hr1 hb1) hc1 ⟨hL.below hb1⟩ hMk)
 clear hL hr0 hc0 hr1 hc1 ho hl hr hRt hm hMk
 go_enter Tryz.func8, Tryz.ntmps8
 go_wp2_with (first
  | (go_at_call 14; refine (HR.out _ (by repeat (first | exact Below.refl _ _ | apply below_alloc | apply pw_below_drewN | apply below_drew1))).mono ?_; rintro e w2 ⟨rfl, hb2⟩; have HB2 := Aside0.mk (below_step (below_alloc (Below.refl _ _) _) hb2); clear hb2)
  | (go_at_call 18; refine (HM.out _ HB2.out).mono ?_; rintro e w3 ⟨v3, rfl, ho3, hb3⟩; have HB3 := Aside0.mk (below_step HB2.out hb3); clear hb3 ho3))
 go_ret2
 exact AppPost.no HB3.out
end
end Go.Proofs.YtfbockgjhbfidaaGreatDoor.Pr
