import Derived.Test.YtlnhecplmppldaaUAwakeR
set_option linter.unusedVariables false
set_option linter.unusedSimpArgs false
namespace Go.Proofs.Ytlnhecplmppldaa.Pr
open Go.RowKit Go.Proofs.Fl Go.Proofs.YtlnhecplmppldaaW.PrintWords Go.Proofs.YtlnhecplmppldaaW.PrintLast Go.Proofs.YtlnhecplmppldaaW.PrintMore
attribute [local go_sem] frombits_run bits_run

theorem isNone_tot (v : Int) : ∃ b, soundingsref04_IsNone.f v = some b := by
  unfold soundingsref04_IsNone.f
  split <;> exact ⟨_, rfl⟩

set_option maxHeartbeats 4000000 in
set_option maxRecDepth 100000 in
theorem rises_any (A0 : Option Addr) (c0 : Nat) (l0 : List S29) (s t : Int) (w : World) (hr0 : Kd.C k29 w A0 l0.length l0) (hc0 : l0.length ≤ c0) (hwf : ∀ x ∈ l0, 0 ≤ x.f1 ∧ x.f1 < 18446744073709551616) :
    Calls Try.prog 8 #[.slice A0 l0.length c0, .int .i64 s, .int .i64 t] w fun e w' => e = .returned (.bool true) ∧ Below w.heap.size w w' := by
  have hadd := fun w t x y => run_arith (P := Try.prog) w .add t x y rfl
  have HR0 := Aside0.mk hr0
  have HC0 := Aside0.mk hc0
  have HWF := Aside0.mk hwf
  clear hr0 hc0 hwf
  by_cases hlen : (l0.length : Int) > 400
  · go_enter Try.func8, Try.ntmps8
    go_wp2_with (go_at_call 9; refine (awakeR_any _).mono ?_; rintro e w1 ⟨rfl, hb1⟩)
    go_ret
    exact ⟨rfl, hb1⟩
  replace hlen : l0.length ≤ 400 := by omega
  have hlen2 : (l0.length : Int) ≤ 400 := by omega
  go_enter Try.func8, Try.ntmps8
  go_wp2_with (go_at_call 9; refine (awakeR_any _).mono ?_; rintro e w1 ⟨rfl, hb1⟩)
  have HB0 := Aside0.mk hb1
  clear hb1
  go_loopw [7, 8] (fun v7 v8 w' => ∃ (i : Nat) (g : Nat), v8 = .int .i64 i ∧ i ≤ l0.length ∧ v7 = .float .f64 g ∧ Aside0 (∀ (j : Nat) (h : j < l0.length), j < i → (l0[j]).f1 ≤ 9214364837600034816) ∧ Aside0 (Below w.heap.size w w')) (fun _ v8 _ => l0.length - (intOf v8).toNat)
  case atStart => exact ⟨0, 0, rfl, by omega, rfl, ⟨fun j h hj => by omega⟩, HB0⟩
  case round =>
    obtain ⟨i, g, rfl, him, rfl, HA1, HB1⟩ := hrel
    by_cases hlt : i < l0.length
    · obtain ⟨ai, ei, y0, y1⟩ := at_T29 (Kd.C_below HR0.out HB1.out) (i : Nat) (by omega) (by omega)
      subst ei
      obtain ⟨xi, hxi⟩ : ∃ x, x = rd_T29 l0 (i : Nat) := ⟨_, rfl⟩
      rw [← hxi] at y0 y1
      rw [rdR l0 i hlt] at hxi
      simp only [Int.toNat_natCast] at y0 y1
      have HXI := Aside0.mk hxi
      clear hxi
      obtain ⟨bn, hbn⟩ := isNone_tot xi.f1
      have HBN := Aside0.mk hbn
      clear hbn
      have t1 : IntKind.i64.wrap ((i : Int) + 1) = (i : Int) + 1 := IntWalk.i64_in _ (by omega)
      have t2 : (0 : Int) ≤ (i : Int) := by omega
      have t3 : (i : Int) < (l0.length : Int) := by omega
      cases bn with
      | true =>
        go_wp2_with (go_at_call 20; refine (soundingsref04_IsNone.calls _ _ _ HBN.out).mono ?_; rintro e w' ⟨rfl, ⟨nd, rfl⟩⟩)
        go_ret
        exact ⟨rfl, pw_below_drewN HB1.out _⟩
      | false =>
        by_cases hbig : xi.f1 > 9214364837600034816
        · go_wp2_with (go_at_call 20; refine (soundingsref04_IsNone.calls _ _ _ HBN.out).mono ?_; rintro e w' ⟨rfl, ⟨nd, rfl⟩⟩)
          go_ret
          exact ⟨rfl, pw_below_drewN HB1.out _⟩
        · replace hbig : xi.f1 ≤ 9214364837600034816 := by omega
          go_wp2_with (first | (go_at_call 20; refine (soundingsref04_IsNone.calls _ _ _ HBN.out).mono ?_; rintro e w' ⟨rfl, ⟨nd, rfl⟩⟩) | (go_at_call 21; refine (float_any _ _).mono ?_; rintro e w' ⟨rfl, rfl⟩))
          go_roundw
          case rel => exact ⟨i + 1, _, by go_num, by omega, rfl, ⟨fun j h hj => by
            rcases Nat.lt_or_eq_of_le (Nat.lt_succ_iff.1 hj) with h1 | h1
            · exact HA1.out j h h1
            · subst h1; rw [← HXI.out]; exact hbig⟩, ⟨pw_below_drewN HB1.out _⟩⟩
          case measure => simp [intOf]; omega
    · obtain rfl : i = l0.length := by omega
      have HV : Aside0 (∀ x ∈ l0, x.f1.toNat < INF) := ⟨fun x hx => by
        obtain ⟨j, hj, rfl⟩ := List.mem_iff_getElem.1 hx
        have h1 := HA1.out j hj hj
        have h2 := HWF.out _ hx
        generalize (l0[j]).f1 = y at h1 h2 ⊢
        unfold INF; omega⟩
      cases hgt : (FloatKind.f64.format.order g 9094988921128908188 == some .gt) with
      | true =>
        go_wp2_with (go_at_call 22; refine (isInf_any _ _).mono ?_; rintro e w' ⟨bb, rfl, rfl⟩; cases bb)
        all_goals (go_ret; exact ⟨rfl, HB1.out⟩)
      | false =>
        obtain ⟨b, hb, hbt⟩ := rmay_R l0 s t (by omega)
        cases b with
        | false =>
          have HM := Aside0.mk hb
          clear hb hbt
          go_wp2_with (first | (go_at_call 22; refine (isInf_any _ _).mono ?_; rintro e w' ⟨bb, rfl, rfl⟩; cases bb) | fail)
          · refine (grow_not nmRate true true (.inl ⟨rfl, rfl, rfl⟩) _ _ l0 s t 1002 _ (Kd.C_below HR0.out HB1.out) HC0.out HM.out).mono ?_
            rintro e w2 ⟨rfl, hb2⟩
            have HB2 := Aside0.mk (below_then HB1.out HB1.out.size hb2)
            clear hb2
            go_wp2_with (fail)
            refine (grow_not nmInc true false (.inr (.inl ⟨rfl, rfl, rfl⟩)) _ _ l0 s t 1002 _ (Kd.C_below HR0.out HB2.out) HC0.out HM.out).mono ?_
            rintro e w3 ⟨rfl, hb3⟩
            have HB3 := Aside0.mk (below_then HB2.out HB2.out.size hb3)
            clear hb3
            go_wp2_with (fail)
            go_ret
            exact ⟨rfl, HB3.out⟩
          · go_ret
            exact ⟨rfl, HB1.out⟩
        | true =>
          have HM := Aside0.mk hb
          have HT := Aside0.mk (hbt rfl)
          clear hb hbt
          go_wp2_with (first | (go_at_call 22; refine (isInf_any _ _).mono ?_; rintro e w' ⟨bb, rfl, rfl⟩; cases bb) | fail)
          · obtain ⟨g1, hg1, hg1i⟩ := grow_nn true l0 s t HT.out.1 hlen HV.out HT.out.2.2.2.1 HT.out.2.2.2.2.2 HT.out.2.2.2.2.1 (by have := HT.out; omega)
            obtain ⟨g2, hg2, hg2i⟩ := grow_nn false l0 s t HT.out.1 hlen HV.out HT.out.2.2.2.1 HT.out.2.2.2.2.2 HT.out.2.2.2.2.1 (by have := HT.out; omega)
            have HG1 := Aside0.mk hg1
            have HG2 := Aside0.mk hg2
            have HG1I := Aside0.mk hg1i
            have HG2I := Aside0.mk hg2i
            clear hg1 hg2 hg1i hg2i
            refine (grow_Rate _ _ l0 s t 1002 _ (Kd.C_below HR0.out HB1.out) HC0.out HM.out HT.out.1 (by omega) HT.out.2.1 HT.out.2.2.1 HT.out.2.2.2.1 HT.out.2.2.2.2.1 (Int.le_of_lt HT.out.2.2.2.2.2)).mono ?_
            rintro e w2 ⟨v1, rfl, hv1, hb2⟩
            obtain ⟨rfl, hn1⟩ := norm_nn (hv1.trans HG1.out) HG1I.out
            rw [hn1]
            have HB2 := Aside0.mk (below_then HB1.out HB1.out.size hb2)
            clear hb2 hv1 hn1
            go_wp2_with (fail)
            refine (grow_Inc _ _ l0 s t 1002 _ (Kd.C_below HR0.out HB2.out) HC0.out HM.out HT.out.1 (by omega) HT.out.2.1 HT.out.2.2.1 HT.out.2.2.2.1 HT.out.2.2.2.2.1 (Int.le_of_lt HT.out.2.2.2.2.2)).mono ?_
            rintro e w3 ⟨v2, rfl, hv2, hb3⟩
            obtain ⟨rfl, hn2⟩ := norm_nn (hv2.trans HG2.out) HG2I.out
            rw [hn2]
            have HB3 := Aside0.mk (below_then HB2.out HB2.out.size hb3)
            clear hb3 hv2 hn2
            have z1 := ge_zero HG1I.out
            have z2 := ge_zero HG2I.out
            go_wp2_with (first | (go_at_call 21; refine (float_any _ _).mono ?_; rintro e w' ⟨rfl, rfl⟩; simp only [Int.toNat_natCast]))
            go_ret
            exact ⟨rfl, HB3.out⟩
          · go_ret
            exact ⟨rfl, HB1.out⟩
end Go.Proofs.Ytlnhecplmppldaa.Pr
