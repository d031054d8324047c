import Derived.Test.YtlnhecplmppldaaRises
set_option linter.unusedVariables false
set_option linter.unusedSimpArgs false
namespace Go.Proofs.Ytlnhecplmppldaa.Pr
open Go.RowKit Go.Proofs.Fl Go.Proofs.YtlnhecplmppldaaW.PrintWords Go.Proofs.YtlnhecplmppldaaW.PrintLast Go.Proofs.YtlnhecplmppldaaW.PrintMore
attribute [local go_sem] frombits_run bits_run

def aw2 : List S29 := [⟨10000, 0⟩, ⟨20000, 4621819117588971520⟩]
def aw1 : List S29 := [⟨10000, 0⟩]
theorem aw_grow : growF false false aw2 0 20000 = some 4626322717216342016 := by decide +kernel
theorem aw_may2 : rate_may.f 1002 aw2 0 20000 = some true := by decide +kernel
theorem aw_may1 : rate_may.f 1002 aw1 0 20000 = some false := by decide +kernel

theorem nf_inj {v x : Nat} (h : nf v = some x) : v = x := by
  unfold nf at h
  split at h
  · cases h
  · exact Option.some.inj h
theorem norm_aw : normI ((4626322717216342016 : Nat) : Int) = 4626322717216342016 := by decide +kernel

theorem aw_C (w : World) : Kd.C k29 (w.alloc (.cells #[.int .i64 10000, .int .u64 0, .int .i64 20000, .int .u64 4621819117588971520] 29)) (some ⟨w.heap.size, 0, none⟩) aw2.length aw2 := by
  refine ⟨rfl, by decide, fun _ => ⟨_, rfl, fun j p hj => ?_⟩⟩
  match j, hj with
  | 0, hj =>
    obtain rfl : (⟨10000, 0⟩ : S29) = p := by simpa [aw2] using hj
    refine ⟨_, rfl, k29_mk _ _, fun i u hu => ?_⟩
    match i, hu with
    | 0, hu => obtain rfl := Option.some.inj hu; go_simp
    | 1, hu => obtain rfl := Option.some.inj hu; go_simp
    | i + 2, hu => simp at hu
  | 1, hj =>
    obtain rfl : (⟨20000, 4621819117588971520⟩ : S29) = p := by simpa [aw2] using hj
    refine ⟨_, rfl, k29_mk _ _, fun i u hu => ?_⟩
    match i, hu with
    | 0, hu => obtain rfl := Option.some.inj hu; go_simp; rfl
    | 1, hu => obtain rfl := Option.some.inj hu; go_simp; rfl
    | i + 2, hu => simp at hu
  | j + 2, hj => simp [aw2] at hj

set_option maxHeartbeats 1000000 in
theorem awakeR_any (w : World) : Calls Try.prog 9 #[] w fun e w' => e = .returned (.bool true) ∧ Below w.heap.size w w' := by
  have HB := Aside0.mk (below_alloc (Below.refl w.heap.size w) (.cells #[.int .i64 10000, .int .u64 0, .int .i64 20000, .int .u64 4621819117588971520] 29))
  have HC := Aside0.mk (aw_C w)
  go_enter Try.func9, Try.ntmps9
  go_wp2_with (fail)
  refine (grow_Delta _ 2 aw2 0 20000 1002 _ HC.out (by decide) aw_may2 (by decide) (by decide) (by decide) (by decide) (by decide) (by decide) (by decide)).mono ?_
  rintro e w2 ⟨v, rfl, hv, hb⟩
  obtain rfl : v = 4626322717216342016 := nf_inj (hv.trans aw_grow)
  have HC2 := Aside0.mk (Kd.C_below HC.out hb)
  have HB2 := Aside0.mk (below_then HB.out (by simp) hb)
  rw [norm_aw]
  clear hb hv
  go_wp2_with (fail)
  refine (grow_not nmDelta false false (.inr (.inr ⟨rfl, rfl, rfl⟩)) _ 2 aw1 0 20000 1002 _ (Kd.C_take (m := 1) HC2.out (by decide)) (by decide) aw_may1).mono ?_
  rintro e w3 ⟨rfl, hb⟩
  have HB3 := Aside0.mk (below_then HB2.out HB2.out.size hb)
  clear hb
  go_wp2_with (fail)
  go_ret
  exact ⟨rfl, HB3.out⟩
end Go.Proofs.Ytlnhecplmppldaa.Pr
