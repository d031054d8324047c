import Derived.Test.YtlnhecplmppldaaGrow
set_option linter.unusedVariables false
set_option linter.unusedSimpArgs false
namespace Go.Proofs.Ytlnhecplmppldaa.Pr
open Go.RowKit Go.Proofs.Fl Go.Proofs.YtlnhecplmppldaaW.PrintWords Go.Proofs.YtlnhecplmppldaaW.PrintLast Go.Proofs.YtlnhecplmppldaaW.PrintMore
attribute [local go_sem] frombits_run bits_run

set_option maxHeartbeats 4000000 in
set_option maxRecDepth 100000 in
theorem grow_Inc (A0 : Option Addr) (c0 : Nat) (l0 : List S29) (s t : Int) (k : Nat) (w : World) (hr0 : Kd.C k29 w A0 l0.length l0) (hc0 : l0.length ≤ c0)
    (hm : rate_may.f k l0 s t = some true) (hn : 2 ≤ l0.length) (hb : l0.length ≤ 1000) (hb1 : -4503599627370496 ≤ s) (hb2 : t ≤ 4503599627370496) (hb3 : s < (rd_T29 l0 0).f0) (hb4 : (rd_T29 l0 ((l0.length : Int) - 1)).f0 ≤ t) (hb5 : (rd_T29 l0 0).f0 ≤ (rd_T29 l0 ((l0.length : Int) - 1)).f0) :
    Calls Try.prog 10 #[.string ⟨#[105, 110, 99, 114, 101, 97, 115, 101]⟩, .slice A0 l0.length c0, .int .i64 s, .int .i64 t] w fun e w' => ∃ v : Nat, e = .returned (.tuple #[.int .u64 (normI v), .bool true]) ∧ nf v = growF true false l0 s t ∧ Below w.heap.size w w' := by
  have HR0 := Aside0.mk hr0
  have HC0 := Aside0.mk hc0
  have HM := Aside0.mk hm
  have HN := Aside0.mk hn
  have HBB := Aside0.mk hb
  obtain ⟨m, hm'⟩ : ∃ m, l0.length = m + 1 := ⟨l0.length - 1, by omega⟩
  have HL := Aside0.mk hm'
  rw [show (l0.length : Int) - 1 = (m : Int) from by omega] at hb4 hb5
  obtain ⟨ad, e0, p0, p1⟩ := at_T29 hr0 0 (by omega) (by omega)
  obtain ⟨ad', e1, q0, q1⟩ := at_T29 hr0 (m : Nat) (by omega) (by omega)
  subst e0
  cases e1
  obtain ⟨x0, hx0⟩ : ∃ x, x = rd_T29 l0 0 := ⟨_, rfl⟩
  obtain ⟨xm, hxm⟩ : ∃ x, x = rd_T29 l0 (m : Nat) := ⟨_, rfl⟩
  have HF : Aside0 (∀ g : Option Nat, g = gainS true (vals l0) → growF true false l0 s t = fop .mul g (if false = true then fop .quo (fop .quo (moreF (fop .mul (fop .quo (secF x0.f0 xm.f0) (nf (floatOfInt .f64 (m : Int)))) (nf 4607632778762754458)) (moreF (fop .mul (fop .quo (secF x0.f0 xm.f0) (nf (floatOfInt .f64 (m : Int)))) (nf 4607632778762754458)) (secF x0.f0 xm.f0) (fop .quo (secF x0.f0 xm.f0) (nf (floatOfInt .f64 (m : Int)))) (beginF true g (secF x0.f0 xm.f0) (secF s x0.f0) (nf x0.f1.toNat))) (fop .quo (secF x0.f0 xm.f0) (nf (floatOfInt .f64 (m : Int)))) (secF xm.f0 t)) (secF x0.f0 xm.f0)) (secF s t) else (fop .quo (moreF (fop .mul (fop .quo (secF x0.f0 xm.f0) (nf (floatOfInt .f64 (m : Int)))) (nf 4607632778762754458)) (moreF (fop .mul (fop .quo (secF x0.f0 xm.f0) (nf (floatOfInt .f64 (m : Int)))) (nf 4607632778762754458)) (secF x0.f0 xm.f0) (fop .quo (secF x0.f0 xm.f0) (nf (floatOfInt .f64 (m : Int)))) (beginF true g (secF x0.f0 xm.f0) (secF s x0.f0) (nf x0.f1.toNat))) (fop .quo (secF x0.f0 xm.f0) (nf (floatOfInt .f64 (m : Int)))) (secF xm.f0 t)) (secF x0.f0 xm.f0)))) := by
    refine ⟨fun g hg => ?_⟩
    rw [hg, hx0, hxm]
    unfold growF
    rw [show (l0.length : Int) - 1 = (m : Int) from by omega]
  rw [← hx0] at p0 p1 hb3 hb5
  rw [← hxm] at q0 q1 hb4 hb5
  simp only [Int.toNat_natCast, Int.toNat_zero, Nat.zero_mul, Addr.add_zero'] at p0 p1 q0 q1
  have HX0 := Aside0.mk hx0
  have HXM := Aside0.mk hxm
  have b0 := World.block_lt_of_cell? w _ p0
  have b1 := World.block_lt_of_cell? w _ q0
  have b2 : ad.block < w.heap.size + 1 := by omega
  have b3 : (ad.add (m * 2)).block < w.heap.size + 1 := by omega
  have HM2 : Aside0 (∀ w1 : World, Below w.heap.size w w1 → Calls Try.prog 24 #[.slice (some ad) (m + 1) c0, .int .i64 s, .int .i64 t] w1 fun e w' => e = .returned (.bool true) ∧ Drawn0 w1 w') :=
    ⟨fun w1 hw => by rw [← hm']; exact rate_may.calls k _ _ l0 s t true w1 (Kd.C_below hr0 hw) hc0 hm⟩
  have HG2 : Aside0 (∀ (w1 : World) (b : Bool), Below w.heap.size w w1 → Calls Try.prog 25 #[.slice (some ad) (m + 1) c0, .bool b] w1 fun e w' => ∃ g, e = .returned (.float .f64 g) ∧ nf g = gainS b (vals l0) ∧ Below w1.heap.size w1 w') :=
    ⟨fun w1 b hw => by rw [← hm']; exact gain_any _ _ l0 b w1 (Kd.C_below hr0 hw) hc0 (by omega) hb⟩
  obtain ⟨cb, hcb, ncb, kcb⟩ := seconds_det s x0.f0 (by omega) (by omega)
  obtain ⟨cr, hcr, ncr, kcr⟩ := seconds_det xm.f0 t (by omega) (by omega)
  obtain ⟨cs, hcs, ncs, kcs⟩ := seconds_det x0.f0 xm.f0 (by omega) (by omega)
  obtain ⟨ca, hca, nca, kca⟩ := seconds_det s t (by omega) (by omega)
  have KCB := Aside0.mk kcb
  have KCR := Aside0.mk kcr
  have KCS := Aside0.mk kcs
  have KCA := Aside0.mk kca
  have HCB := Aside0.mk hcb
  have HCR := Aside0.mk hcr
  have HCS := Aside0.mk hcs
  have HCA := Aside0.mk hca
  have hb' : m + 1 ≤ 1000 := by omega
  rw [hm']
  clear hr0 hc0 hm hx0 hxm hn hm' hb kcb kcr kcs kca hcb hcr hcs hca ncb ncr ncs nca
  have z4 : IntKind.i64.wrap (m : Int) = (m : Int) := IntWalk.i64_in _ (by omega)
  have z5 : (0 : Int) ≤ (m : Int) := by omega
  have z6 : (m : Int) < (m : Int) + 1 := by omega
  have z7 : (0 : Int) < (m : Int) + 1 := by omega

  go_enter Try.func10, Try.ntmps10
  go_upto_region 4 with (first | (go_at_call 24; refine (HM2.out _ (Below.refl _ _)).mono ?_; rintro e w' ⟨rfl, ⟨nd, rfl⟩⟩))
  go_cut [11, 12] (fun v11 v12 wc => ∃ g1 g2 : Nat, v11 = .pointer (some ⟨g1, 0, none⟩) ∧ v12 = .pointer (some ⟨g2, 0, none⟩) ∧ Aside0 (Below w.heap.size w wc) ∧ wc.cell? ⟨g1, 0, none⟩ = some (.int .i64 x0.f0) ∧ wc.cell? ⟨g1, 1, none⟩ = some (.int .u64 x0.f1) ∧ wc.cell? ⟨g2, 0, none⟩ = some (.int .i64 xm.f0) ∧ wc.cell? ⟨g2, 1, none⟩ = some (.int .u64 xm.f1))
  case first =>
    go_region
    all_goals go_wp2_with fail
    all_goals go_meet
    · case rel => exact ⟨w.heap.size, w.heap.size + 1, rfl, rfl, ⟨pw_below_drewN (below_alloc (below_alloc (Below.refl _ _) _) _) _⟩, by go_simp, by go_simp, by go_simp, by go_simp⟩
    · case rel => exact ⟨w.heap.size + 1, w.heap.size, rfl, rfl, ⟨pw_below_drewN (below_alloc (below_alloc (Below.refl _ _) _) _) _⟩, by go_simp, by go_simp, by go_simp, by go_simp⟩
  case rest =>
    obtain ⟨g1, g2, rfl, rfl, HBc, y0, y1, u0, u1⟩ := hcut
    go_wp2_with fail
    refine (HG2.out _ _ HBc.out).mono ?_
    rintro e w1 ⟨gb, rfl, hgb, hbg⟩
    have HGB := Aside0.mk hgb
    have HBd := Aside0.mk (below_then HBc.out HBc.out.size hbg)
    replace y0 := pw_cell_below hbg y0
    replace y1 := pw_cell_below hbg y1
    replace u0 := pw_cell_below hbg u0
    replace u1 := pw_cell_below hbg u1
    clear hgb hbg HBc
    go_wp2_with fail
    go_quiet ((first | (go_at_call 26; with_reducible exact Calls.quiet_of_same (KCB.out _)) | (go_at_call 26; with_reducible exact Calls.quiet_of_same (KCR.out _)) | (go_at_call 26; with_reducible exact Calls.quiet_of_same (KCS.out _))))
    go_upto_region 8 with (first | (refine wpList_arith (by rfl) _ _ _ _ .quo (by rfl) rfl _ _ (by rfl) (by rfl) ?_; intro mean mn hmean))
    have HMEAN := Aside0.mk hmean
    clear hmean
    obtain ⟨C, hC⟩ : ∃ C : Bool, C = (true && gtF (nf gb) (nf 0) && geF (nf x0.f1.toNat) (nf 0)) := ⟨_, rfl⟩
    have HC := Aside0.mk hC
    clear hC
    have c3 := World.block_lt_of_cell? w1 _ y0
    have c4 := World.block_lt_of_cell? w1 _ u0
    have HW1 := Aside0.mk HBd.out.size
    go_cut [81] (fun v81 wd => v81 = .bool C ∧ Aside0 (Below w.heap.size w wd) ∧ w1.heap.size < wd.heap.size ∧ wd.cell? ⟨w1.heap.size, 0, none⟩ = some (.float .f64 mean) ∧ wd.cell? ⟨g1, 0, none⟩ = some (.int .i64 x0.f0) ∧ wd.cell? ⟨g1, 1, none⟩ = some (.int .u64 x0.f1))
    case first =>
      have e1 := HC.out
      rw [gtF_nf, geF_nf] at e1
      simp only [Bool.true_and] at e1
      cases h1 : (FloatKind.f64.format.order gb 0 == some .gt)
      · rw [h1] at e1
        simp only [Bool.false_and] at e1
        subst e1
        go_wp2
        go_meet
        case rel =>
          refine ⟨?_, ⟨pw_below_drewN (below_alloc HBd.out _) _⟩, by go_simp, by go_simp, by go_simp, by go_simp⟩
          rfl
      · rw [h1] at e1
        cases h2 : (FloatKind.f64.format.order x0.f1.toNat 0 == some .gt) <;> cases h3 : (FloatKind.f64.format.order x0.f1.toNat 0 == some .eq)
        all_goals
          rw [h2, h3] at e1
          simp only [Bool.true_and, Bool.or_false, Bool.or_true, Bool.true_or] at e1
          subst e1
          go_wp2_with (first | (go_at_call 27; refine (of_any _ _ _).mono ?_; rintro e w4 ⟨rfl, hbd⟩))
          go_meet
          case rel =>
            refine ⟨?_, ⟨below_then (pw_below_drewN (below_alloc HBd.out _) _) (by have := HBd.out.size; simp; omega) hbd⟩, ?_, ?_, ?_, ?_⟩
            · rfl
            · exact Nat.lt_of_lt_of_le (by simp) hbd.size
            · exact pw_cell_below hbd (by go_simp)
            · exact pw_cell_below hbd (by go_simp)
            · exact pw_cell_below hbd (by go_simp)
    case rest =>
      obtain ⟨rfl, HBe, sz, m0, y2, y3⟩ := hcut
      obtain ⟨begin1, hbegin⟩ : ∃ x, x = (if C = true then leastF (nf cb) (fop .mul (nf cs) (fop .quo (nf x0.f1.toNat) (nf gb))) else nf cb) := ⟨_, rfl⟩
      have HBEG := Aside0.mk hbegin
      clear hbegin
      go_upto_if 81 with (fail)
      go_cut [14] (fun v14 wd' => ∃ bb : Nat, v14 = .float .f64 bb ∧ Aside0 (nf bb = begin1) ∧ Aside0 (Below w.heap.size w wd') ∧ w1.heap.size < wd'.heap.size ∧ wd'.cell? ⟨w1.heap.size, 0, none⟩ = some (.float .f64 mean))
      case first =>
        have e1 := HBEG.out
        cases C
        · go_wp2
          go_meet
          case rel => exact ⟨cb, rfl, ⟨by rw [e1]; simp⟩, HBe, sz, m0⟩
        · go_wp2_with (first | (go_at_call 27; refine (of_any _ _ _).mono ?_; rintro e w4 ⟨rfl, hbd⟩) | (refine wpList_arith (by rfl) _ _ _ _ .quo (by rfl) rfl _ _ (by rfl) (by rfl) ?_; intro qq qn hq) | (go_at_call 29; refine (times_any _ _ _).mono ?_; rintro e w5 ⟨zz, zn, rfl, rfl, hz⟩) | (go_at_call 28; refine (least_det _ _ _).mono ?_; rintro e w6 ⟨ll, rfl, hll, rfl⟩))
          all_goals
            go_meet
            case rel =>
              refine ⟨_, rfl, ⟨?_⟩, ⟨?_⟩, ?_, ?_⟩
              · rw [e1]
                simp only [if_true]
                rw [← hq, ← hz, hll]
              · exact pw_below_drewN (below_then HBe.out HBe.out.size hbd) _
              · exact Nat.lt_of_lt_of_le sz hbd.size
              · exact pw_cell_below hbd m0
      case rest =>
        obtain ⟨bb, rfl, hbb, HBf, sz2, m1⟩ := hcut
        go_wp2_with (first | (go_at_call 29; refine (times_any _ _ _).mono ?_; rintro e w5 ⟨most, zn, rfl, rfl, hz⟩))
        have HMOST := Aside0.mk hz
        clear hz
        refine (more_det bb most cs mean _ _ _ _ (by go_simp) (by go_simp) (by go_simp) (by go_simp)).mono ?_
        rintro e w6 ⟨l1, n1, rfl, rfl, hl1⟩
        have HL1 := Aside0.mk hl1
        clear hl1
        go_wp2_with fail
        refine (more_det cr most l1 mean _ _ _ _ (by go_simp) (by go_simp) (by go_simp) (by go_simp)).mono ?_
        rintro e w6 ⟨l2, n2, rfl, rfl, hl2⟩
        have HL2 := Aside0.mk hl2
        clear hl2
        go_wp2_with (first | (refine wpList_arith (by rfl) (.tmp 100) (.tmp 101) _ _ .quo (by rfl) rfl _ _ (by rfl) (by rfl) ?_; intro part pn hpart) | (refine wpList_arith (by rfl) (.tmp 105) (.tmp 108) _ _ .quo (by rfl) rfl _ _ (by rfl) (by rfl) ?_; intro part2 pn2 hpart2) | (go_at_call 26; with_reducible refine (KCA.out _).mono ?_; rintro e w7 ⟨rfl, rfl⟩) | (go_at_call 29; refine (times_any _ _ _).mono ?_; rintro e w5 ⟨res, rn, rfl, rfl, hres⟩) | (go_at_call 31; refine (norm_any _ _).mono ?_; rintro e w6 ⟨rfl, rfl⟩))
        go_ret2
        refine ⟨res, by simp, ?_, ?_⟩
        · rw [HF.out (nf gb) HGB.out]
          have e2 := HBEG.out
          rw [HCS.out] at e2
          unfold beginF
          rw [← HC.out, ← HCB.out, ← HCS.out, HCS.out, ← e2, ← hbb.out, ← HCS.out, ← HMEAN.out, ← HMOST.out, ← HL1.out, ← HCR.out, ← HL2.out]
          simp only [if_true, if_false, Bool.false_eq_true]
          first
            | (rw [hres, hpart2, hpart, HCA.out]; done)
            | (rw [hres, hpart])
        · have hsz := HBf.out.size
          repeat (first | exact HBf.out | apply pw_below_drewN | apply below_alloc | (refine Below.setCell ?_ (by simp; omega) _))

end Go.Proofs.Ytlnhecplmppldaa.Pr
