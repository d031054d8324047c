/- Texts of this session, cut down to what one claim needs and joined: FfLaw. -/
import Derived.Test.YtjleceekccehoaaGreatDoorBFfOrd
import Derived.Test.YtjleceekccehoaaGreatDoorBGAs
set_option linter.unusedVariables false
set_option linter.unusedSimpArgs false
namespace Go.Proofs.YtjleceekccehoaaGreatDoor.Pr
open Go.RowKit Go.Proofs.Fl Go.Proofs.YtjleceekccehoaaGreatDoorW.PrintWords Go.Proofs.YtjleceekccehoaaGreatDoorW.PrintLast Go.Proofs.YtjleceekccehoaaGreatDoorW.PrintMore

/-- What the rows' lists give. -/
structure LaidA (w : World) : Prop where
  e : LaidE w
  f : LaidF w
  g : LaidG w
theorem LaidA.below {w w' : World} (h : LaidA w) (hb : Below w.heap.size w w') : LaidA w' := ⟨h.e.below hb, h.f.below hb, h.g.below hb⟩
theorem text_1000 : txt 4652007308841189376 = ⟨#[49, 48, 48, 48]⟩ := by kernel_rfl
theorem norm_stale : normI 9218868437227405314 = 9218868437227405314 := by
  unfold normI; rw [if_neg (fun h => h.2 rfl)]
theorem norm_stale1 : normI 9218868437227405315 = 9221120237041090561 := by
  unfold normI; rw [if_pos ⟨by decide, by decide⟩]
set_option maxHeartbeats 1000000 in
set_option maxRecDepth 100000 in
theorem awake_any (w : World) (hA : LaidA w) : Calls Tryz.prog 9 #[] w fun e w' => e = .returned (.bool true) ∧ Below w.heap.size w w' := by
  have HA := Aside0.mk hA
  clear hA
  go_enter Tryz.func9, Tryz.ntmps9
  go_wp2_with fail
  refine (value_1e3 _ HA.out.g).mono ?_
  rintro e w1 ⟨rfl, hb_⟩
  have HB := Aside0.mk hb_
  clear hb_
  go_wp2_with fail
  refine (value_1e _).mono ?_
  rintro e w2 ⟨rfl, hb_⟩
  have HB2 := Aside0.mk (below_step HB.out hb_)
  clear hb_ HB
  go_wp2_with fail
  refine (text_any 4652007308841189376 (by decide) (by decide) _ (HA.out.below HB2.out).f).mono ?_
  rw [text_1000]
  rintro e w3 ⟨rfl, hb_⟩
  have HB3 := Aside0.mk (below_step HB2.out hb_)
  clear hb_ HB2
  go_wp2_with fail
  refine (code_hit 13 (by decide) _ (HA.out.below HB3.out).e).mono ?_
  rintro e w4 ⟨rfl, hb_⟩
  have HB4 := Aside0.mk (below_step HB3.out hb_)
  clear hb_ HB3
  go_wp2_with fail
  refine (norm_any 9218868437227405314 _).mono ?_
  rw [norm_stale]
  rintro e w5 ⟨rfl, rfl⟩
  go_wp2_with fail
  refine (norm_any 9218868437227405315 _).mono ?_
  rw [norm_stale1]
  rintro e w6 ⟨rfl, rfl⟩
  go_wp2_with fail
  go_ret
  exact ⟨rfl, HB4.out⟩
end Go.Proofs.YtjleceekccehoaaGreatDoor.Pr
