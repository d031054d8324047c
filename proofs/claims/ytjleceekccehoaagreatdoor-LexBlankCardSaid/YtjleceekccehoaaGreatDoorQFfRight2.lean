/- Texts of this session, cut down to what one claim needs and joined: FfRight2. -/
import Derived.Test.YtjleceekccehoaaGreatDoorQFfRight
set_option linter.unusedVariables false
set_option linter.unusedSimpArgs false
namespace Go.Proofs.YtjleceekccehoaaGreatDoor.Pr
open Go.RowKit Go.Proofs.YtjleceekccehoaaGreatDoor.Dec Go.Proofs.YtjleceekccehoaaGreatDoorW.PrintWords Go.Proofs.YtjleceekccehoaaGreatDoorW.PrintLast Go.Proofs.YtjleceekccehoaaGreatDoorW.PrintMore

set_option maxHeartbeats 4000000 in
set_option maxRecDepth 100000 in
theorem right_any (k : Nat) (k1 : 1 ≤ k) (k2 : k ≤ 60) (g : Nat) (ds : List Int) (n : Nat) (dp : Int) (ng tr : Bool) (hG : GoodD ds n) (hn : 1 ≤ n) (d1 : -1000000000 ≤ dp) (d2 : dp ≤ 1000000000) (w0 w : World) (h : DecB w0 w g ds n dp ng tr) :
    Calls Tryz.prog 144 #[.pointer (some ⟨g, 0, none⟩), .int .u64 k] w fun e w' => e = .returned (.tuple #[]) ∧ ∃ es m e tr', RightR w0 w' g ds dp ng es m e tr' := by
  have HB := Aside0.mk h
  have HG := Aside0.mk hG
  have n8 := hG.le
  obtain ⟨K, hK⟩ : ∃ K : Nat, 2 ^ k = K := ⟨_, rfl⟩
  have hp := pow60 k k2
  have hK2 : 2 ≤ K := by rw [← hK]; calc 2 = 2 ^ 1 := rfl
    _ ≤ 2 ^ k := Nat.pow_le_pow_right (by decide) k1
  rw [hK] at hp
  have hKI : (2 : Int) ^ k = (K : Int) := by rw [← hK]; simp
  have HKK := Aside0.mk hK
  have HK2 := Aside0.mk hK2
  have kb : (K : Int) ≤ 1152921504606846976 := by omega
  have kb1 : (1 : Int) ≤ (K : Int) := by omega
  have hand := and_mask k k2
  rw [hK] at hand
  have HAND := Aside0.mk hand
  have z0 : (0 : Int) ≤ (k : Int) := by omega
  have z1 : (k : Int) ≤ 64 := by omega
  have HN := Aside0.mk hn
  clear h hG hp hK hK2 hand
  go_enter Tryz.func144, Tryz.ntmps144
  go_wp2_with fail
  go_loopg [4, 6] 30 (fun q v4 v6 wr => ∃ r N : Nat, v4 = .int .i64 (r : Int) ∧ v6 = .int .u64 (N : Int) ∧ r + q = 30 ∧ r ≤ n ∧ r ≤ 20 ∧ Aside0 (R1 ds K r N) ∧ Aside0 (DecB w0 wr g ds n dp ng tr))
  case atStart => exact ⟨0, 0, rfl, rfl, rfl, by omega, by omega, ⟨by have := HK2.out; omega, fun _ => rfl, fun h => by omega, fun h => by omega⟩, HB⟩
  case round =>
    clear HB
    obtain ⟨r, N, h4, h6, hq, hrn, hr20, HR, HB⟩ := hrel
    have hlt := HR.out.lt
    have b1 : (N : Int) < 10 * (K : Int) := by omega
    clear hlt
    have cn := HB.out.nd_
    subst h4 h6
    by_cases hNK : N < K
    · have t1 := eq0 N K hNK
      by_cases hr : r < n
      · have s1 : ((r : Int) ≥ (n : Int)) = False := by simp; omega
        obtain ⟨x, hx⟩ : ∃ x, ds[r]? = some x := ⟨ds[r]'(by have := HG.out.len; omega), List.getElem?_eq_getElem (by have := HG.out.len; omega)⟩
        have hxd := HG.out.dig r x hr hx
        have cx := HB.out.dig r x hx
        have HN2 : Aside0 (R1 ds K (r + 1) (N * 10 + (x - 48).toNat)) := ⟨HR.out.step HG.out hr hNK hx⟩
        have q3 : (r : Int) < 800 := by omega
        have q4 : (0 : Int) ≤ (r : Int) := by omega
        have r19 : r ≤ 19 := HR.out.few k2 HKK.out hNK
        have b2 : (N : Int) * 10 + 9 ≤ 18446744073709551615 := by omega
        have b3 : (0 : Int) ≤ (N : Int) := by omega
        clear hx
        go_wp2_with fail
        go_roundg (gk - 1)
        case measure => omega
        case rel => exact ⟨r + 1, N * 10 + (x - 48).toNat, by go_num, by go_num, by omega, by omega, by omega, HN2, HB⟩
      · have hre : r = n := by omega
        have s1 : ((r : Int) ≥ (n : Int)) := by omega
        have hr1 : 1 ≤ r := by have := HN.out; omega
        have hN1 : 1 ≤ N := by
          have h1 := HR.out.big hr1
          have h2 : 0 < 10 ^ (r - 1) := Nat.pow_pos (by decide)
          omega
        have s2 : ((N : Int) == 0) = false := by rw [beq_eq_false_iff_ne]; omega
        have b3 : (0 : Int) ≤ (N : Int) := by omega
        clear hre hN1 b1
        go_wp2_with fail
        go_loopg [4, 6] gk (fun q v4 v6 wr => ∃ r N : Nat, v4 = .int .i64 (r : Int) ∧ v6 = .int .u64 (N : Int) ∧ r + q = 30 ∧ 1 ≤ r ∧ r ≤ 20 ∧ Aside0 (R1 ds K r N) ∧ Aside0 (DecB w0 wr g ds n dp ng tr))
        case atStart => exact ⟨r, N, rfl, rfl, hq, hr1, hr20, HR, HB⟩
        case round =>
          clear HB HR hNK cn t1 s1 s2 b3 hr hq hr1 hr20 hrn
          obtain ⟨r', N', h4, h6, hq, hr1, hr20, HR, HB⟩ := hrel
          subst h4 h6
          have hlt := HR.out.lt
          have b1 : (N' : Int) < 10 * (K : Int) := by omega
          have b3 : (0 : Int) ≤ (N' : Int) := by omega
          clear hlt
          by_cases hNK : N' < K
          · have t1 := eq0 N' K hNK
            have b2 : (N' : Int) * 10 + 9 ≤ 18446744073709551615 := by omega
            have r19 := HR.out.few k2 HKK.out hNK
            have HN2 := Aside0.mk (HR.out.more hr1 hNK)
            go_wp2_with fail
            go_roundg (gk - 1)
            case measure => omega
            case rel => exact ⟨r' + 1, N' * 10, by go_num, by go_num, by omega, by omega, by omega, HN2, HB⟩
          · have t1 := ne0 N' K hNK (by omega)
            have HP := Aside0.mk hNK
            clear hNK hq
            have cd := HB.out.dp_
            have fd := HB.out.froz 801
            have r1 : 1 ≤ r' := HR.out.pos HP.out (by omega)
            have R20 : r' ≤ 20 := by first | exact hr20 | omega
            have dq : (dp - ((r' : Int) - 1)) = dp - ((r' - 1 : Nat) : Int) := by omega
            obtain ⟨e, he⟩ : ∃ e : Nat, r' - 1 = e := ⟨_, rfl⟩
            have he1 : (r' : Int) - 1 = (e : Int) := by omega
            have HE := Aside0.mk he
            have e19 : (e : Int) ≤ 19 := by omega
            have HS := Aside0.mk (Rg.start HR.out HG.out HP.out)
            clear he dq HR
            go_wp2_with fail
            go_loopg [4, 5, 6] (n - r') (fun q v4 v5 v6 wr => ∃ r3 w3 N3 : Nat, v4 = .int .i64 (r3 : Int) ∧ v5 = .int .i64 (w3 : Int) ∧ v6 = .int .u64 (N3 : Int) ∧ r3 = r' + w3 ∧ q = n - r3 ∧ w3 ≤ 800 ∧ Aside0 (∃ es, DecB w0 wr g es n (dp - e) ng tr ∧ Rg ds es K r' r3 w3 N3))
            case atStart => exact ⟨r', 0, N', rfl, rfl, rfl, rfl, rfl, by omega, ⟨ds, HB.out.setDp _, HS.out⟩⟩
            case round =>
              clear HB HS HP
              obtain ⟨r3, w3, N3, h4, h5, h6, hr', hq, hw8, HH⟩ := hrel
              obtain ⟨es, hB, hF⟩ := HH.out
              have HB := Aside0.mk hB
              have HF := Aside0.mk hF
              have hlt := hF.lt
              have b1 : (N3 : Int) < 10 * (K : Int) := by omega
              have b3 : (0 : Int) ≤ (N3 : Int) := by omega
              have cn := hB.nd_
              have HR' := Aside0.mk (And.intro hr' hq)
              have w1r : w3 < r3 := by omega
              clear hB hF HH hlt hr' hq
              subst h4 h5 h6
              by_cases hr : r3 < n
              · have s1 : (r3 : Int) < (n : Int) := by omega
                obtain ⟨x, hx⟩ : ∃ x, ds[r3]? = some x := ⟨ds[r3]'(by have := HG.out.len; omega), List.getElem?_eq_getElem (by have := HG.out.len; omega)⟩
                have hxd := HG.out.dig r3 x hr hx
                have cx := HB.out.dig r3 x ((HF.out.high r3 (Nat.le_refl _)).trans hx)
                obtain ⟨y, hy⟩ : ∃ y, es[w3]? = some y := ⟨es[w3]'(by have := HF.out.len; omega), List.getElem?_eq_getElem (by have := HF.out.len; omega)⟩
                have cy := HB.out.dig w3 y hy
                have fw := HB.out.froz w3
                obtain ⟨D, hD⟩ : ∃ D, N3 / K = D := ⟨_, rfl⟩
                have hDI : (N3 : Int) / (K : Int) = (D : Int) := by rw [← hD]; simp
                have hD9 : D ≤ 9 := by rw [← hD]; exact div_le9 HF.out.lt
                obtain ⟨R, hR⟩ : ∃ R, N3 % K = R := ⟨_, rfl⟩
                have hA := HAND.out N3 (by omega)
                rw [hR] at hA
                have hRK : R < K := by rw [← hR]; exact Nat.mod_lt _ (by omega)
                have bR : (R : Int) * 10 + 9 < 10 * (K : Int) := by omega
                have q3 : (r3 : Int) < 800 := by omega
                have q4 : (0 : Int) ≤ (r3 : Int) := by omega
                have q5 : (w3 : Int) < 800 := by omega
                have q6 : (0 : Int) ≤ (w3 : Int) := by omega
                have b2 : (R : Int) * 10 + 9 ≤ 18446744073709551615 := by omega
                have hF2 := HF.out.put (by omega) HK2.out HG.out HN.out (R * 10 + (x - 48).toNat) (by omega) (r3 + 1) (by omega)
                rw [hD] at hF2
                have HF2 := Aside0.mk hF2
                clear hx hy hD hR hF2 hRK
                go_wp2_with fail
                go_roundg (n - (r3 + 1))
                case measure => have := HR'.out; omega
                case rel => exact ⟨r3 + 1, w3 + 1, R * 10 + (x - 48).toNat, by go_num, by go_num, by go_num, by have := HR'.out; omega, rfl, by omega, ⟨_, HB.out.setDig w3 (by omega) _, HF2.out⟩⟩
              · have s1 : ((r3 : Int) < (n : Int)) = False := by simp; omega
                go_wp2_with fail
                go_loopg [5, 6] (k + 1) (fun q v5 v6 wr => ∃ w3 N3 : Nat, v5 = .int .i64 (w3 : Int) ∧ v6 = .int .u64 (N3 : Int) ∧ w3 ≤ 800 ∧ Aside0 (Cut k q N3) ∧ Aside0 (∃ es tr', DecB w0 wr g es n (dp - e) ng tr' ∧ Rh ds es K r' w3 N3))
                case atStart => exact ⟨w3, N3, rfl, rfl, hw8, ⟨Cut.start k N3⟩, ⟨es, tr, HB.out, HF.out.rh⟩⟩
                case round =>
                  clear HB HF cn s1 hr HR' w1r b1 b3 hw8
                  obtain ⟨w1, N1, h5, h6, hw8, HC, HH⟩ := hrel
                  obtain ⟨es1, tr1, hB, hF⟩ := HH.out
                  have HB := Aside0.mk hB
                  have HF := Aside0.mk hF
                  have hlt := hF.lt
                  have b1 : (N1 : Int) < 10 * (K : Int) := by omega
                  have b3 : (0 : Int) ≤ (N1 : Int) := by omega
                  clear hB hF HH hlt
                  subst h5 h6
                  by_cases hN0 : N1 = 0
                  · subst hN0
                    have hz : 1 ≤ w1 := by
                      rcases Nat.eq_zero_or_pos w1 with h0 | h0
                      · have := (HF.out.zero h0).1; omega
                      · exact h0
                    have cn := HB.out.nd_
                    have fn := HB.out.froz 800
                    have HZ := Aside0.mk hz
                    clear hz
                    have q7 : ((((0 : Nat) : Int)) > 0) = False := by simp
                    go_wp2_with fail
                    refine (trim_any g es1 w1 (dp - e) ng tr1 (by omega) w0 _ (HB.out.setNd _)).mono ?_
                    rintro e_ w'' ⟨rfl, hb_⟩
                    go_wp2_with fail
                    go_end0
                    have hgd := good_strip HF.out.len hw8 HZ.out HF.out.dig (fun x hx => (HF.out.one HZ.out x hx).1)
                    exact ⟨rfl, es1, _, e, tr1, ⟨by have := hgd.2; rw [if_neg (by omega)] at hb_; exact hb_, hgd.1, hgd.2, by omega, fun h0 x y hx hy => (HF.out.one HZ.out y hy).2 (by have := HE.out; omega) x hx⟩⟩
                  · have t1 : (N1 : Int) > 0 := by omega
                    obtain ⟨q', hq1, hq2⟩ := HC.out.step (by omega)
                    rw [HKK.out] at hq2
                    obtain ⟨D, hD⟩ : ∃ D, N1 / K = D := ⟨_, rfl⟩
                    have hDI : (N1 : Int) / (K : Int) = (D : Int) := by rw [← hD]; simp
                    have hD9 : D ≤ 9 := by rw [← hD]; exact div_le9 HF.out.lt
                    obtain ⟨R, hR⟩ : ∃ R, N1 % K = R := ⟨_, rfl⟩
                    have hA := HAND.out N1 (by omega)
                    have hRK : R < K := by rw [← hR]; exact Nat.mod_lt _ (by omega)
                    rw [hR] at hA hq2
                    have b2 : (R : Int) + 1 ≤ (K : Int) := by omega
                    have HQ2 := Aside0.mk hq2
                    by_cases hw : w1 < 800
                    · have hF2 := HF.out.put HK2.out HG.out HN.out
                      rw [hD, hR] at hF2
                      have HF2 := Aside0.mk hF2
                      obtain ⟨y, hy⟩ : ∃ y, es1[w1]? = some y := ⟨es1[w1]'(by have := HF.out.len; omega), List.getElem?_eq_getElem (by have := HF.out.len; omega)⟩
                      have cy := HB.out.dig w1 y hy
                      have fw := HB.out.froz w1
                      have q5 : (w1 : Int) < 800 := by omega
                      have q6 : (0 : Int) ≤ (w1 : Int) := by omega
                      have HQ1 := Aside0.mk hq1
                      clear hD hR hF2 hy hq2 HC hRK hN0 hq1
                      go_wp2_with fail
                      go_roundg q'
                      case measure => exact HQ1.out
                      case rel => exact ⟨w1 + 1, R * 10, by go_num, by go_num, by omega, HQ2, ⟨_, tr1, HB.out.setDig w1 hw _, HF2.out⟩⟩
                    · have hF2 := HF.out.skip (by omega) HK2.out
                      rw [hR] at hF2
                      have HF2 := Aside0.mk hF2
                      have cy := HB.out.tr_
                      have fw := HB.out.froz 803
                      have hw2 : w1 = 800 := by omega
                      have HQ1 := Aside0.mk hq1
                      clear hD hR hF2 hq2 HC hRK hN0 hq1
                      by_cases hD0 : D = 0
                      · subst hD0
                        have q7 : ((((0 : Nat) : Int)) > 0) = False := by simp
                        subst hw2
                        go_wp2_with fail
                        go_roundg q'
                        case measure => exact HQ1.out
                        case rel => exact ⟨800, R * 10, rfl, by go_num, by omega, HQ2, ⟨_, tr1, HB.out, HF2.out⟩⟩
                      · have q7 : (D : Int) > 0 := by omega
                        subst hw2
                        go_wp2_with fail
                        go_roundg q'
                        case measure => exact HQ1.out
                        case rel => exact ⟨800, R * 10, rfl, by go_num, by omega, HQ2, ⟨_, true, HB.out.setTr true, HF2.out⟩⟩
    · have t1 := ne0 N K hNK (by omega)
      have HP := Aside0.mk hNK
      clear hNK hq hrn
      have cd := HB.out.dp_
      have fd := HB.out.froz 801
      have r1 : 1 ≤ r := HR.out.pos HP.out (by omega)
      have R20 : r ≤ 20 := by first | exact hr20 | omega
      have dq : (dp - ((r : Int) - 1)) = dp - ((r - 1 : Nat) : Int) := by omega
      obtain ⟨e, he⟩ : ∃ e : Nat, r - 1 = e := ⟨_, rfl⟩
      have he1 : (r : Int) - 1 = (e : Int) := by omega
      have HE := Aside0.mk he
      have e19 : (e : Int) ≤ 19 := by omega
      have HS := Aside0.mk (Rg.start HR.out HG.out HP.out)
      clear he dq HR
      go_wp2_with fail
      go_loopg [4, 5, 6] (n - r) (fun q v4 v5 v6 wr => ∃ r3 w3 N3 : Nat, v4 = .int .i64 (r3 : Int) ∧ v5 = .int .i64 (w3 : Int) ∧ v6 = .int .u64 (N3 : Int) ∧ r3 = r + w3 ∧ q = n - r3 ∧ w3 ≤ 800 ∧ Aside0 (∃ es, DecB w0 wr g es n (dp - e) ng tr ∧ Rg ds es K r r3 w3 N3))
      case atStart => exact ⟨r, 0, N, rfl, rfl, rfl, rfl, rfl, by omega, ⟨ds, HB.out.setDp _, HS.out⟩⟩
      case round =>
        clear HB HS HP
        obtain ⟨r3, w3, N3, h4, h5, h6, hr', hq, hw8, HH⟩ := hrel
        obtain ⟨es, hB, hF⟩ := HH.out
        have HB := Aside0.mk hB
        have HF := Aside0.mk hF
        have hlt := hF.lt
        have b1 : (N3 : Int) < 10 * (K : Int) := by omega
        have b3 : (0 : Int) ≤ (N3 : Int) := by omega
        have cn := hB.nd_
        have HR' := Aside0.mk (And.intro hr' hq)
        have w1r : w3 < r3 := by omega
        clear hB hF HH hlt hr' hq
        subst h4 h5 h6
        by_cases hr : r3 < n
        · have s1 : (r3 : Int) < (n : Int) := by omega
          obtain ⟨x, hx⟩ : ∃ x, ds[r3]? = some x := ⟨ds[r3]'(by have := HG.out.len; omega), List.getElem?_eq_getElem (by have := HG.out.len; omega)⟩
          have hxd := HG.out.dig r3 x hr hx
          have cx := HB.out.dig r3 x ((HF.out.high r3 (Nat.le_refl _)).trans hx)
          obtain ⟨y, hy⟩ : ∃ y, es[w3]? = some y := ⟨es[w3]'(by have := HF.out.len; omega), List.getElem?_eq_getElem (by have := HF.out.len; omega)⟩
          have cy := HB.out.dig w3 y hy
          have fw := HB.out.froz w3
          obtain ⟨D, hD⟩ : ∃ D, N3 / K = D := ⟨_, rfl⟩
          have hDI : (N3 : Int) / (K : Int) = (D : Int) := by rw [← hD]; simp
          have hD9 : D ≤ 9 := by rw [← hD]; exact div_le9 HF.out.lt
          obtain ⟨R, hR⟩ : ∃ R, N3 % K = R := ⟨_, rfl⟩
          have hA := HAND.out N3 (by omega)
          rw [hR] at hA
          have hRK : R < K := by rw [← hR]; exact Nat.mod_lt _ (by omega)
          have bR : (R : Int) * 10 + 9 < 10 * (K : Int) := by omega
          have q3 : (r3 : Int) < 800 := by omega
          have q4 : (0 : Int) ≤ (r3 : Int) := by omega
          have q5 : (w3 : Int) < 800 := by omega
          have q6 : (0 : Int) ≤ (w3 : Int) := by omega
          have b2 : (R : Int) * 10 + 9 ≤ 18446744073709551615 := by omega
          have hF2 := HF.out.put (by omega) HK2.out HG.out HN.out (R * 10 + (x - 48).toNat) (by omega) (r3 + 1) (by omega)
          rw [hD] at hF2
          have HF2 := Aside0.mk hF2
          clear hx hy hD hR hF2 hRK
          go_wp2_with fail
          go_roundg (n - (r3 + 1))
          case measure => have := HR'.out; omega
          case rel => exact ⟨r3 + 1, w3 + 1, R * 10 + (x - 48).toNat, by go_num, by go_num, by go_num, by have := HR'.out; omega, rfl, by omega, ⟨_, HB.out.setDig w3 (by omega) _, HF2.out⟩⟩
        · have s1 : ((r3 : Int) < (n : Int)) = False := by simp; omega
          go_wp2_with fail
          go_loopg [5, 6] (k + 1) (fun q v5 v6 wr => ∃ w3 N3 : Nat, v5 = .int .i64 (w3 : Int) ∧ v6 = .int .u64 (N3 : Int) ∧ w3 ≤ 800 ∧ Aside0 (Cut k q N3) ∧ Aside0 (∃ es tr', DecB w0 wr g es n (dp - e) ng tr' ∧ Rh ds es K r w3 N3))
          case atStart => exact ⟨w3, N3, rfl, rfl, hw8, ⟨Cut.start k N3⟩, ⟨es, tr, HB.out, HF.out.rh⟩⟩
          case round =>
            clear HB HF cn s1 hr HR' w1r b1 b3 hw8
            obtain ⟨w1, N1, h5, h6, hw8, HC, HH⟩ := hrel
            obtain ⟨es1, tr1, hB, hF⟩ := HH.out
            have HB := Aside0.mk hB
            have HF := Aside0.mk hF
            have hlt := hF.lt
            have b1 : (N1 : Int) < 10 * (K : Int) := by omega
            have b3 : (0 : Int) ≤ (N1 : Int) := by omega
            clear hB hF HH hlt
            subst h5 h6
            by_cases hN0 : N1 = 0
            · subst hN0
              have hz : 1 ≤ w1 := by
                rcases Nat.eq_zero_or_pos w1 with h0 | h0
                · have := (HF.out.zero h0).1; omega
                · exact h0
              have cn := HB.out.nd_
              have fn := HB.out.froz 800
              have HZ := Aside0.mk hz
              clear hz
              have q7 : ((((0 : Nat) : Int)) > 0) = False := by simp
              go_wp2_with fail
              refine (trim_any g es1 w1 (dp - e) ng tr1 (by omega) w0 _ (HB.out.setNd _)).mono ?_
              rintro e_ w'' ⟨rfl, hb_⟩
              go_wp2_with fail
              go_end0
              have hgd := good_strip HF.out.len hw8 HZ.out HF.out.dig (fun x hx => (HF.out.one HZ.out x hx).1)
              exact ⟨rfl, es1, _, e, tr1, ⟨by have := hgd.2; rw [if_neg (by omega)] at hb_; exact hb_, hgd.1, hgd.2, by omega, fun h0 x y hx hy => (HF.out.one HZ.out y hy).2 (by have := HE.out; omega) x hx⟩⟩
            · have t1 : (N1 : Int) > 0 := by omega
              obtain ⟨q', hq1, hq2⟩ := HC.out.step (by omega)
              rw [HKK.out] at hq2
              obtain ⟨D, hD⟩ : ∃ D, N1 / K = D := ⟨_, rfl⟩
              have hDI : (N1 : Int) / (K : Int) = (D : Int) := by rw [← hD]; simp
              have hD9 : D ≤ 9 := by rw [← hD]; exact div_le9 HF.out.lt
              obtain ⟨R, hR⟩ : ∃ R, N1 % K = R := ⟨_, rfl⟩
              have hA := HAND.out N1 (by omega)
              have hRK : R < K := by rw [← hR]; exact Nat.mod_lt _ (by omega)
              rw [hR] at hA hq2
              have b2 : (R : Int) + 1 ≤ (K : Int) := by omega
              have HQ2 := Aside0.mk hq2
              by_cases hw : w1 < 800
              · have hF2 := HF.out.put HK2.out HG.out HN.out
                rw [hD, hR] at hF2
                have HF2 := Aside0.mk hF2
                obtain ⟨y, hy⟩ : ∃ y, es1[w1]? = some y := ⟨es1[w1]'(by have := HF.out.len; omega), List.getElem?_eq_getElem (by have := HF.out.len; omega)⟩
                have cy := HB.out.dig w1 y hy
                have fw := HB.out.froz w1
                have q5 : (w1 : Int) < 800 := by omega
                have q6 : (0 : Int) ≤ (w1 : Int) := by omega
                have HQ1 := Aside0.mk hq1
                clear hD hR hF2 hy hq2 HC hRK hN0 hq1
                go_wp2_with fail
                go_roundg q'
                case measure => exact HQ1.out
                case rel => exact ⟨w1 + 1, R * 10, by go_num, by go_num, by omega, HQ2, ⟨_, tr1, HB.out.setDig w1 hw _, HF2.out⟩⟩
              · have hF2 := HF.out.skip (by omega) HK2.out
                rw [hR] at hF2
                have HF2 := Aside0.mk hF2
                have cy := HB.out.tr_
                have fw := HB.out.froz 803
                have hw2 : w1 = 800 := by omega
                have HQ1 := Aside0.mk hq1
                clear hD hR hF2 hq2 HC hRK hN0 hq1
                by_cases hD0 : D = 0
                · subst hD0
                  have q7 : ((((0 : Nat) : Int)) > 0) = False := by simp
                  subst hw2
                  go_wp2_with fail
                  go_roundg q'
                  case measure => exact HQ1.out
                  case rel => exact ⟨800, R * 10, rfl, by go_num, by omega, HQ2, ⟨_, tr1, HB.out, HF2.out⟩⟩
                · have q7 : (D : Int) > 0 := by omega
                  subst hw2
                  go_wp2_with fail
                  go_roundg q'
                  case measure => exact HQ1.out
                  case rel => exact ⟨800, R * 10, rfl, by go_num, by omega, HQ2, ⟨_, true, HB.out.setTr true, HF2.out⟩⟩
end Go.Proofs.YtjleceekccehoaaGreatDoor.Pr
