/- Texts of this session, cut down to what one claim needs and joined: FfRefP. -/
import Derived.Test.YtjleceekccehoaaGreatDoorVGJ17
import Derived.Test.YtjleceekccehoaaGreatDoorVGJ26
set_option linter.unusedVariables false
set_option linter.unusedSimpArgs false
namespace Go.Proofs.YtjleceekccehoaaGreatDoor.Pr
open Go.RowKit Go.Proofs.YtjleceekccehoaaGreatDoorW.PrintWords Go.Proofs.YtjleceekccehoaaGreatDoorW.PrintLast Go.Proofs.YtjleceekccehoaaGreatDoorW.PrintMore

theorem rplain_any (l : List UInt8) (hl : l.length ≤ 1000000) (w : World) : Calls Tryz.prog 41 #[.string (bs l)] w fun e w' => e = .returned (.bool (plainV l)) ∧ Drawn0 w w' :=
 soundingsref04_Plain.calls (l.length + 1 + 6) (bs l) (plainV l) w (ref_plain hl (l.length + 1) (by omega))
def RpE (l : List UInt8) (e : Ending) : Prop := if l.length ≤ 200 ∧ plainV l = true then ∃ b : Int, e = .returned (.tuple #[.int .u64 b, .bool true]) else e = .returned (.tuple #[.int .u64 0, .bool false])
set_option maxHeartbeats 1000000 in
set_option maxRecDepth 100000 in
theorem rbits_any (x : Nat) (w : World) : Calls Tryz.prog 42 #[.float .f64 x] w fun e w' => e = .returned (.int .u64 x) ∧ w = w' := by
 have k1 := fbits_run
 go_enter Tryz.func42, Tryz.ntmps42
 go_wp2_with fail
 go_ret
 exact ⟨rfl, rfl⟩
set_option maxHeartbeats 1000000 in
set_option maxRecDepth 100000 in
theorem refParse_any (l : List UInt8) (hb : BegN l) (hl : l.length ≤ 1000000) (w : World) (hN : LaidN w) (hS : LaidS w) : Calls Tryz.prog 24 #[.string (bs l)] w fun e w' => RpE l e ∧ Below w.heap.size w w' := by
 have hsz := bs_size l
 have e1 := beg_ne hb 78 [97, 78] (by decide)
 have e2 := beg_ne hb 73 [110, 102] (by decide)
 have e3 := beg_ne hb 43 [73, 110, 102] (by decide)
 have e4 := beg_ne hb 45 [73, 110, 102] (by decide)
 have HN := Aside0.mk hN
 have HS := Aside0.mk hS
 have HB := Aside0.mk hb
 have HL := Aside0.mk hl
 clear hN hS hb hl
 by_cases h2 : l.length ≤ 200
 ·have t1 : ((l.length : Int) > 200) = False := eq_false (by omega)
  obtain ⟨b, hp⟩ : ∃ b, plainV l = b := ⟨_, rfl⟩
  have HP := Aside0.mk hp
  clear hp
  cases b
  ·have HV : Aside0 (RpE l (.returned (.tuple #[.int .u64 0, .bool false]))) := ⟨by unfold RpE; rw [if_neg (by rw [HP.out]; simp)]⟩
   go_enter Tryz.func24, Tryz.ntmps24
   go_wp2_with fail
   refine (rplain_any l HL.out _).mono ?_
   rw [HP.out]
   rintro e_ w1 ⟨rfl, ⟨m1, rfl⟩⟩
   go_wp2_with fail
   go_ret2
   exact ⟨by first | exact HV.out | (simp; exact HV.out), by repeat (first | (with_reducible exact Below.refl _ _) | apply pw_below_drewN | apply below_drew1 | exact Below.refl _ _)⟩
  ·have HV : Aside0 (∀ b : Int, RpE l (.returned (.tuple #[.int .u64 b, .bool true]))) := ⟨fun b => by unfold RpE; rw [if_pos ⟨h2, HP.out⟩]; exact ⟨b, rfl⟩⟩
   have HT := Aside0.mk (plain_numT HP.out h2 HB.out.2)
   go_enter Tryz.func24, Tryz.ntmps24
   go_wp2_with fail
   refine (rplain_any l HL.out _).mono ?_
   rw [HP.out]
   rintro e_ w1 ⟨rfl, ⟨m1, rfl⟩⟩
   go_wp2_with fail
   refine (parseFloat_any l HT.out HB.out.1 _ (HN.out.below (by repeat (first | (with_reducible exact Below.refl _ _) | apply pw_below_drewN | apply below_drew1 | exact Below.refl _ _))) (HS.out.below (by repeat (first | (with_reducible exact Below.refl _ _) | apply pw_below_drewN | apply below_drew1 | exact Below.refl _ _)))).mono ?_
   rintro e_ w2 ⟨⟨x, v, rfl⟩, hb2⟩
   have HB2 : Aside0 (Below w.heap.size w w2) := ⟨below_step (by repeat (first | (with_reducible exact Below.refl _ _) | apply pw_below_drewN | apply below_drew1 | exact Below.refl _ _)) hb2⟩
   clear hb2
   go_wp2_with (go_at_call 42; refine (rbits_any _ _).mono ?_; rintro e_ w' ⟨rfl, rfl⟩)
   go_ret2
   exact ⟨by first | exact HV.out _ | (simp; exact HV.out _), HB2.out⟩
 ·have t1 : ((l.length : Int) > 200) := by omega
  have HV : Aside0 (RpE l (.returned (.tuple #[.int .u64 0, .bool false]))) := ⟨by unfold RpE; rw [if_neg (fun h => h2 h.1)]⟩
  go_enter Tryz.func24, Tryz.ntmps24
  go_wp2_with fail
  go_ret2
  exact ⟨by first | exact HV.out | (simp; exact HV.out), by repeat (first | (with_reducible exact Below.refl _ _) | apply pw_below_drewN | apply below_drew1 | exact Below.refl _ _)⟩
end Go.Proofs.YtjleceekccehoaaGreatDoor.Pr
