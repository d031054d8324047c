/- Texts of this session, cut down to what one claim needs and joined: LbCmp, LbUCmp. -/
import Derived.Test.YtfbockgjhbfidaaGreatDoorQGOrd
import Derived.Test.YtfbockgjhbfidaaGreatDoorQGDel
import Derived.Test.YtfbockgjhbfidaaGreatDoorQGLaid
section
set_option linter.unusedVariables false
set_option linter.unusedSimpArgs false
namespace Go.Proofs.YtfbockgjhbfidaaGreatDoor.Pr
open Go.RowKit Go.Proofs.YtfbockgjhbfidaaGreatDoorW.PrintWords Go.Proofs.YtfbockgjhbfidaaGreatDoorW.PrintLast Go.Proofs.YtfbockgjhbfidaaGreatDoorW.PrintMore

/-- Rows of labels compared. -/
def cmpLs : List S44 → List S44 → Int
 | [], [] => 0
 | [], _ :: _ => -1
 | _ :: _, [] => 1
 | x :: r, y :: t => if cmpL x y = 0 then cmpLs r t else cmpL x y
theorem GrownQ.below {W w' : World} (h : GrownQ W w') : Below W.heap.size W w' := by
 obtain ⟨q, os, rfl⟩ := h
 exact ⟨rfl, rfl, rfl, by simp [Go.Sort.grow], fun j hj => by simp [Go.Sort.grow, Array.getElem?_append, hj]⟩
set_option maxHeartbeats 4000000 in
set_option maxRecDepth 100000 in
theorem compareFunc_Lb (A0 : Option Addr) (c0 : Nat) (l0 : List S44) (A1 : Option Addr) (c1 : Nat) (l1 : List S44) (w : World) (hr0 : Kd.C k44 w A0 l0.length l0) (hr1 : Kd.C k44 w A1 l1.length l1) (hb0 : l0.length ≤ 9223372036854775807) (hb1 : l1.length ≤ 9223372036854775807) :
  Calls Tryz.prog 49 #[.slice A0 l0.length c0, .slice A1 l1.length c1, .func (.func 38) #[] #[]] w fun e w' => e = .returned (.int .i64 (cmpLs l0 l1)) ∧ Below w.heap.size w w' := by
 have HR0 := Aside0.mk hr0
 have HR1 := Aside0.mk hr1
 clear hr0 hr1
 go_enter Tryz.func49, Tryz.ntmps49
 go_wp2
 go_loopw [13] (fun v13 w' => ∃ (i : Nat), v13 = .int .i64 i ∧ i ≤ l0.length ∧ i ≤ l1.length ∧ Aside0 (cmpLs (l0.drop i) (l1.drop i) = cmpLs l0 l1) ∧ Aside0 (Below w.heap.size w w')) (fun v13 _ => l0.length - (intOf v13).toNat)
 case atStart => exact ⟨0, rfl, Nat.zero_le _, Nat.zero_le _, ⟨by simp⟩, ⟨Below.refl _ _⟩⟩
 case round =>
  obtain ⟨i, rfl, hi0, hi1, HI, HB⟩ := hrel
  by_cases hlt : i < l0.length
  ·obtain ⟨ai, ei, y0, y1⟩ := at_T44 (Kd.C_below HR0.out HB.out) (i : Nat) (by omega) (by omega)
   cases ei
   obtain ⟨x, hx⟩ : ∃ x, x = rd_T44 l0 (i : Nat) := ⟨_, rfl⟩
   have hd : l0.drop i = x :: l0.drop (i + 1) := by
    rw [List.drop_eq_getElem_cons hlt, hx]; simp [rd_T44, hlt]
   rw [← hx] at y0 y1
   simp only [Int.toNat_natCast] at y0 y1
   by_cases hlt1 : i < l1.length
   ·obtain ⟨bi, fi, z0, z1⟩ := at_T44 (Kd.C_below HR1.out HB.out) (i : Nat) (by omega) (by omega)
    cases fi
    obtain ⟨y, hy⟩ : ∃ y, y = rd_T44 l1 (i : Nat) := ⟨_, rfl⟩
    have hd1 : l1.drop i = y :: l1.drop (i + 1) := by
     rw [List.drop_eq_getElem_cons hlt1, hy]; simp [rd_T44, hlt1]
    rw [← hy] at z0 z1
    simp only [Int.toNat_natCast] at z0 z1
    replace z0 := pw_cell_below (below_alloc (Below.refl wr.heap.size wr) (.cells #[.string x.f0, .string x.f1] 44)) z0
    replace z1 := pw_cell_below (below_alloc (Below.refl wr.heap.size wr) (.cells #[.string x.f0, .string x.f1] 44)) z1
    have hI := HI.out
    rw [hd, hd1, cmpLs] at hI
    have HI2 := Aside0.mk hI
    have HC := Aside0.mk (by_any x y)
    clear hI hd hd1 hx hy HI
    generalize cmpL x y = c at *
    by_cases hc : c = 0
    ·subst hc
     go_wp2_with (go_at_call 38; refine (HC.out _).mono ?_; rintro e w' ⟨rfl, hb'⟩)
     go_roundw
     case rel => exact ⟨i + 1, by go_num, by omega, by omega, ⟨by have h := HI2.out; simpa using h⟩, ⟨below_step (by repeat (first | exact HB.out | apply below_alloc | apply pw_below_drewN | apply below_drew1)) hb'.below⟩⟩
     case measure => simp [intOf]; omega
    ·have hc2 : (c != 0) = true := by simp [hc]
     have hc3 : (c == 0) = false := by simp [hc]
     have HC3 := Aside0.mk hc
     clear hc
     go_wp2_with (go_at_call 38; refine (HC.out _).mono ?_; rintro e w' ⟨rfl, hb'⟩)
     go_ret
     refine ⟨?_, below_step (by repeat (first | exact HB.out | apply below_alloc | apply pw_below_drewN | apply below_drew1)) hb'.below⟩
     have h := HI2.out
     rw [if_neg HC3.out] at h
     rw [← h]
     rfl
   ·have hI := HI.out
    have hge : l1.length ≤ i := by omega
    rw [hd, List.drop_eq_nil_of_le hge, cmpLs] at hI
    have HI2 := Aside0.mk hI
    clear hI hd hx HI hlt1
    go_wp2
    go_ret
    exact ⟨by rw [← HI2.out]; rfl, by repeat (first | exact HB.out | apply below_alloc | apply pw_below_drewN | apply below_drew1)⟩
  ·have hge : l0.length ≤ i := by omega
   by_cases hlt1 : i < l1.length
   ·have hI := HI.out
    rw [List.drop_eq_nil_of_le hge, List.drop_eq_getElem_cons hlt1, cmpLs] at hI
    have HI2 := Aside0.mk hI
    have hl : l0.length < l1.length := by omega
    clear hI HI hlt
    go_wp2
    go_ret
    exact ⟨by rw [← HI2.out]; rfl, HB.out⟩
   ·have hI := HI.out
    have hge1 : l1.length ≤ i := by omega
    rw [List.drop_eq_nil_of_le hge, List.drop_eq_nil_of_le hge1, cmpLs] at hI
    have HI2 := Aside0.mk hI
    clear hge1
    have hl : ¬ l0.length < l1.length := by omega
    have hl2 : l1.length ≤ l0.length := by omega
    clear hI HI hlt hlt1
    go_wp2
    go_ret
    exact ⟨by rw [← HI2.out]; rfl, HB.out⟩
set_option maxHeartbeats 2000000 in
theorem cmp_any (A0 : Option Addr) (c0 : Nat) (l0 : List S44) (A1 : Option Addr) (c1 : Nat) (l1 : List S44) (w : World) (hr0 : Kd.C k44 w A0 l0.length l0) (hr1 : Kd.C k44 w A1 l1.length l1) (hb0 : l0.length ≤ 9223372036854775807) (hb1 : l1.length ≤ 9223372036854775807) :
  Calls Tryz.prog 28 #[.slice A0 l0.length c0, .slice A1 l1.length c1] w fun e w' => e = .returned (.int .i64 (cmpLs l0 l1)) ∧ Below w.heap.size w w' := by
 have HC := Aside0.mk (compareFunc_Lb A0 c0 l0 A1 c1 l1 w hr0 hr1 hb0 hb1)
 clear hr0 hr1 hb0 hb1
 generalize cmpLs l0 l1 = c at *
 go_enter Tryz.func28, Tryz.ntmps28
 go_wp2_with (go_at_call 49; refine HC.out.mono ?_; rintro e w' ⟨rfl, hb'⟩)
 go_ret
 exact ⟨rfl, hb'⟩
end Go.Proofs.YtfbockgjhbfidaaGreatDoor.Pr
end

section
set_option linter.unusedVariables false
namespace Go.Proofs.YtfbockgjhbfidaaGreatDoor.Pr
open Go.RowKit Go.Proofs.YtfbockgjhbfidaaGreatDoorW.PrintWords

def label_Cmp.f (l0 l1 : List S44) : Option Int := if l0.length ≤ 9223372036854775807 ∧ l1.length ≤ 9223372036854775807 then some (cmpLs l0 l1) else none
theorem label_Cmp.calls (A0 : Option Addr) (c0 : Nat) (l0 : List S44) (A1 : Option Addr) (c1 : Nat) (l1 : List S44) (r : Int) (w : World) (hr0 : Kd.C k44 w A0 l0.length l0) (hc0 : l0.length ≤ c0) (hr1 : Kd.C k44 w A1 l1.length l1) (hc1 : l1.length ≤ c1) (hL_ : Aside0 (LaidAll w)) (h : label_Cmp.f l0 l1 = some r) :
  Calls Tryz.prog 28 #[.slice A0 l0.length c0, .slice A1 l1.length c1] w fun e w' => e = .returned (.int .i64 r) ∧ Below w.heap.size w w' := by
 unfold label_Cmp.f at h
 by_cases hs : l0.length ≤ 9223372036854775807 ∧ l1.length ≤ 9223372036854775807
 ·rw [if_pos hs] at h
  have h3 := Option.some.inj h
  rw [← h3]
  exact cmp_any A0 c0 l0 A1 c1 l1 w hr0 hr1 hs.1 hs.2
 ·rw [if_neg hs] at h
  cases h
end Go.Proofs.YtfbockgjhbfidaaGreatDoor.Pr
end
