/- Texts of this session, cut down to what one claim needs and joined: FfLaw. -/
import Derived.Test.YtjleceekccehoaaGreatDoorAFfOrd
import Derived.Test.YtjleceekccehoaaGreatDoorAGAs
set_option linter.unusedVariables false
set_option linter.unusedSimpArgs false
namespace Go.Proofs.YtjleceekccehoaaGreatDoor.Pr
open Go.RowKit Go.Proofs.Fl Go.Proofs.YtjleceekccehoaaGreatDoorW.PrintWords Go.Proofs.YtjleceekccehoaaGreatDoorW.PrintLast Go.Proofs.YtjleceekccehoaaGreatDoorW.PrintMore

/-- What the rows' lists give. -/
structure LaidA (w : World) : Prop where
  e : LaidE w
  f : LaidF w
  g : LaidG w
theorem LaidA.below {w w' : World} (h : LaidA w) (hb : Below w.heap.size w w') : LaidA w' := ⟨h.e.below hb, h.f.below hb, h.g.below hb⟩
theorem text_1000 : txt 4652007308841189376 = ⟨#[49, 48, 48, 48]⟩ := by kernel_rfl
theorem norm_stale : normI 9218868437227405314 = 9218868437227405314 := by
  unfold normI; rw [if_neg (fun h => h.2 rfl)]
theorem norm_stale1 : normI 9218868437227405315 = 9221120237041090561 := by
  unfold normI; rw [if_pos ⟨by decide, by decide⟩]
set_option maxHeartbeats 1000000 in
set_option maxRecDepth 100000 in
theorem awake_any (w : World) (hA : LaidA w) : Calls Tryz.prog 9 #[] w fun e w' => e = .returned (.bool true) ∧ Below w.heap.size w w' := by
  have HA := Aside0.mk hA
  clear hA
  go_enter Tryz.func9, Tryz.ntmps9
  go_wp2_with fail
  refine (value_1e3 _ HA.out.g).mono ?_
  rintro e w1 ⟨rfl, hb_⟩
  have HB := Aside0.mk hb_
  clear hb_
  go_wp2_with fail
  refine (value_1e _).mono ?_
  rintro e w2 ⟨rfl, hb_⟩
  have HB2 := Aside0.mk (below_step HB.out hb_)
  clear hb_ HB
  go_wp2_with fail
  refine (text_any 4652007308841189376 (by decide) (by decide) _ (HA.out.below HB2.out).f).mono ?_
  rw [text_1000]
  rintro e w3 ⟨rfl, hb_⟩
  have HB3 := Aside0.mk (below_step HB2.out hb_)
  clear hb_ HB2
  go_wp2_with fail
  refine (code_hit 13 (by decide) _ (HA.out.below HB3.out).e).mono ?_
  rintro e w4 ⟨rfl, hb_⟩
  have HB4 := Aside0.mk (below_step HB3.out hb_)
  clear hb_ HB3
  go_wp2_with fail
  refine (norm_any 9218868437227405314 _).mono ?_
  rw [norm_stale]
  rintro e w5 ⟨rfl, rfl⟩
  go_wp2_with fail
  refine (norm_any 9218868437227405315 _).mono ?_
  rw [norm_stale1]
  rintro e w6 ⟨rfl, rfl⟩
  go_wp2_with fail
  go_ret
  exact ⟨rfl, HB4.out⟩
set_option maxHeartbeats 1000000 in
set_option maxRecDepth 100000 in
theorem bits_law (a b : Int) (w : World) (hA : LaidA w) (a0 : 0 ≤ a) (a1 : a ≤ 18446744073709551615) (b0 : 0 ≤ b) (b1 : b ≤ 18446744073709551615) :
    Calls Tryz.prog 3 #[.int .u64 a, .int .u64 b] w fun e w' => e = .returned (.bool true) ∧ Below w.heap.size w w' := by
  have HA := Aside0.mk hA
  obtain ⟨na, hna⟩ : ∃ x, normI a = x := ⟨_, rfl⟩
  obtain ⟨nb, hnb⟩ : ∃ x, normI b = x := ⟨_, rfl⟩
  have HNA := Aside0.mk hna
  have HNB := Aside0.mk hnb
  obtain ⟨cc, hcc⟩ : ∃ x, cmpF a.toNat b.toNat = x := ⟨_, rfl⟩
  have HC := Aside0.mk hcc
  obtain ⟨tt, htt⟩ : ∃ x, txt a = x := ⟨_, rfl⟩
  have HT := Aside0.mk htt
  clear hA hna hnb hcc htt
  go_enter Tryz.func3, Tryz.ntmps3
  go_wp2_with fail
  refine (awake_any _ HA.out).mono ?_
  rintro e w1 ⟨rfl, hb_⟩
  have HB := Aside0.mk hb_
  clear hb_
  go_wp2_with fail
  refine (norm_any a _).mono ?_
  rw [HNA.out]
  rintro e w2 ⟨rfl, rfl⟩
  go_wp2_with fail
  refine (refNorm_any a a0 a1 _).mono ?_
  rw [HNA.out]
  rintro e w3 ⟨rfl, ⟨m1, rfl⟩⟩
  go_wp2_with fail
  refine (same_any a b _).mono ?_
  rw [HNA.out, HNB.out]
  rintro e w4 ⟨rfl, ⟨m2, rfl⟩⟩
  go_wp2_with fail
  refine (refNorm_any a a0 a1 _).mono ?_
  rw [HNA.out]
  rintro e w5 ⟨rfl, ⟨m3, rfl⟩⟩
  go_wp2_with fail
  refine (refNorm_any b b0 b1 _).mono ?_
  rw [HNB.out]
  rintro e w6 ⟨rfl, ⟨m4, rfl⟩⟩
  go_wp2_with fail
  refine (cmp_any a b _).mono ?_
  rw [HC.out]
  rintro e w7 ⟨rfl, rfl⟩
  go_wp2_with fail
  refine (refCmp_any a b a0 a1 b0 b1 _).mono ?_
  rw [HC.out]
  rintro e w8 ⟨rfl, hb_⟩
  have HB2 := Aside0.mk (below_step (by repeat (first | (with_reducible exact HB.out) | apply pw_below_drewN | exact HB.out)) hb_)
  clear hb_ HB
  go_wp2_with fail
  refine (text_any a a0 a1 _ (HA.out.below HB2.out).f).mono ?_
  rw [HT.out]
  rintro e w9 ⟨rfl, hb_⟩
  have HB3 := Aside0.mk (below_step HB2.out hb_)
  clear hb_ HB2
  go_wp2_with fail
  refine (refText_any a a0 a1 _ (HA.out.below HB3.out).f).mono ?_
  rw [HT.out]
  rintro e w10 ⟨rfl, hb_⟩
  have HB4 := Aside0.mk (below_step HB3.out hb_)
  clear hb_ HB3
  go_wp2_with fail
  go_ret
  exact ⟨by first | rfl | simp, HB4.out⟩
end Go.Proofs.YtjleceekccehoaaGreatDoor.Pr
