/- span's number and named: walks. -/
import Derived.Test.YtpjbllkifjhknaaDoorCode
import Derived.WalkMore
import Derived.Lib.PathFns
set_option linter.unusedVariables false
set_option linter.unusedSimpArgs false
namespace Go.Proofs.YtpjbllkifjhknaaDoor.Pr
open Go.RowKit Go.Proofs.YtpjbllkifjhknaaDoorW.PrintWords Go.Proofs.YtpjbllkifjhknaaDoorW.PrintLast Go.Proofs.YtpjbllkifjhknaaDoorW.PrintMore

def bs (l : List UInt8) : ByteArray := ⟨l.toArray⟩
theorem bs_size (l : List UInt8) : (bs l).size = l.length := by simp [bs, ByteArray.size]
theorem bs_drop (l : List UInt8) (k : Nat) : (bs l).extract k (bs l).size = bs (l.drop k) := by rw [Go.Lib.Pa.extract_from]; rfl
theorem bs_drop' (l : List UInt8) (k : Nat) : (bs l).extract k l.length = bs (l.drop k) := by rw [← bs_size l, bs_drop]
theorem bs_at (l : List UInt8) (i : Nat) (h : i < l.length) : bt (bs l) (i : Int) = ((l[i]).toNat : Int) := by
  unfold bt
  rw [dif_pos (by rw [bs_size]; simpa using h)]
  rfl
theorem bs_inj {a b : List UInt8} (h : bs a = bs b) : a = b := by
  have : (bs a).data.toList = (bs b).data.toList := by rw [h]
  simpa [bs] using this
/-- Digits ahead, a number at most so much (and one digit more). -/
def numR (most : Int) : List UInt8 → Int → Option (Int × List UInt8)
  | [], n => some (n, [])
  | c :: r, n => if (c.toNat : Int) < 48 ∨ (c.toNat : Int) > 57 then some (n, c :: r) else if n > most then none else numR most r (10 * n + (c.toNat - 48))
def numS (most : Int) (l : List UInt8) : Int × List UInt8 × Bool := match numR most l 0 with
  | none => (0, [], false)
  | some (n, r) => (n, r, decide (r.length < l.length) && decide (n ≤ most))

set_option maxHeartbeats 1000000 in
theorem number_any (l : List UInt8) (most : Int) (h0 : 0 ≤ most) (h1 : most ≤ 35184372088832) (hl : l.length ≤ 9223372036854775806) (w : World) :
    Calls Tryd.prog 12 #[.string (bs l), .int .i64 most] w fun e w' => e = .returned (.tuple #[.int .i64 (numS most l).1, .string (bs (numS most l).2.1), .bool (numS most l).2.2]) ∧ Drawn0 w w' := by
  have hsz := bs_size l
  go_enter Tryd.func12, Tryd.ntmps12
  go_wp2
  go_step3
  go_wp2
  go_step3
  go_wp2
  go_loopw [7, 8] (fun v7 v8 w' => ∃ (i : Nat) (n : Int), v8 = .int .i64 i ∧ i ≤ l.length ∧ v7 = .int .i64 n ∧ 0 ≤ n ∧ n ≤ 351843720888330 ∧ Aside0 (numR most (l.drop i) n = numR most l 0) ∧ Aside0 (Drawn0 w w')) (fun _ v8 _ => l.length - (intOf v8).toNat)
  case atStart => exact ⟨0, 0, rfl, by omega, rfl, by omega, by omega, ⟨rfl⟩, ⟨by first | exact Drawn0.refl _ | exact ⟨_, rfl⟩⟩⟩
  case round =>
    obtain ⟨i, n, rfl, him, rfl, hn0, hn1, HR, HD⟩ := hrel
    by_cases hlt : i < l.length
    · obtain ⟨c, hc⟩ : ∃ c, c = l[i] := ⟨_, rfl⟩
      have hbt : ∀ h : i < (bs l).size, ((bs l)[i]'h).toNat = c.toNat := fun h => by rw [hc]; rfl
      have hc2 : c.toNat < 256 := c.toNat_lt
      have hdr : c :: l.drop (i + 1) = l.drop i := by rw [hc, ← List.drop_eq_getElem_cons hlt]
      have hst := HR.out
      rw [← hdr] at hst
      simp only [numR] at hst
      have HDR := Aside0.mk hdr
      clear hc hdr
      have t1 : IntKind.i64.wrap ((i : Int) + 1) = (i : Int) + 1 := IntWalk.i64_in _ (by omega)
      have t2 : (0 : Int) ≤ (i : Int) := by omega
      have t3 : (i : Int) < (l.length : Int) := by omega
      by_cases c1 : (c.toNat : Int) < 48
      · rw [if_pos (.inl c1), HDR.out] at hst
        have HST := Aside0.mk hst
        clear hst
        have HN : Aside0 (numS most l = (n, l.drop i, decide (0 < i) && decide (n ≤ most))) := ⟨by
          have e : decide ((l.drop i).length < l.length) = decide (0 < i) := decide_eq_decide.2 (by rw [List.length_drop]; omega)
          unfold numS
          rw [← HST.out]
          dsimp only
          rw [e]⟩
        have t9 : (i : Int) ≤ (l.length : Int) := by omega
        clear HST
        by_cases hi0 : 0 < i
        · go_wp2
          go_quiet (fail)
          go_wp2
          simp only [Exit.noGoto]
          go_ret3
          exact ⟨by rw [HN.out, bs_drop']; simp [hi0], HD.out.step _⟩
        · go_wp2
          go_quiet (fail)
          go_wp2
          simp only [Exit.noGoto]
          go_ret3
          exact ⟨by rw [HN.out, bs_drop']; simp [hi0], HD.out.step _⟩
      · by_cases c2 : (c.toNat : Int) > 57
        · rw [if_pos (.inr c2), HDR.out] at hst
          have HST := Aside0.mk hst
          clear hst
          have HN : Aside0 (numS most l = (n, l.drop i, decide (0 < i) && decide (n ≤ most))) := ⟨by
            have e : decide ((l.drop i).length < l.length) = decide (0 < i) := decide_eq_decide.2 (by rw [List.length_drop]; omega)
            unfold numS
            rw [← HST.out]
            dsimp only
            rw [e]⟩
          have t9 : (i : Int) ≤ (l.length : Int) := by omega
          clear HST
          by_cases hi0 : 0 < i
          · go_wp2
            go_quiet (fail)
            go_wp2
            simp only [Exit.noGoto]
            go_ret3
            exact ⟨by rw [HN.out, bs_drop']; simp [hi0], HD.out.step _⟩
          · go_wp2
            go_quiet (fail)
            go_wp2
            simp only [Exit.noGoto]
            go_ret3
            exact ⟨by rw [HN.out, bs_drop']; simp [hi0], HD.out.step _⟩
        · rw [if_neg (by omega)] at hst
          by_cases c3 : n > most
          · rw [if_pos c3] at hst
            have HN : Aside0 (numS most l = (0, [], false)) := ⟨by unfold numS; rw [← hst]⟩
            clear hst
            go_wp2
            go_ret3
            exact ⟨by rw [HN.out]; rfl, HD.out⟩
          · rw [if_neg c3] at hst
            have HST := Aside0.mk hst
            clear hst
            have t4 : IntKind.i64.wrap (10 * n) = 10 * n := IntWalk.i64_in _ (by omega)
            have t5 : IntKind.u8.wrap ((c.toNat : Int) - 48) = (c.toNat : Int) - 48 := by
              show ((c.toNat : Int) - 48) % 256 = _
              omega
            have t6 : IntKind.i64.wrap (10 * n + ((c.toNat : Int) - 48)) = 10 * n + ((c.toNat : Int) - 48) := IntWalk.i64_in _ (by omega)
            have t7 : IntKind.i64.wrap ((c.toNat : Int) - 48) = (c.toNat : Int) - 48 := IntWalk.i64_in _ (by omega)
            go_wp2
            go_roundw
            case rel => exact ⟨i + 1, _, by go_num, by omega, rfl, by omega, by omega, HST, HD⟩
            case measure => simp [intOf]; omega
    · have hil : i = l.length := by omega
      have HST : Aside0 (some (n, l.drop i) = numR most l 0) := ⟨by rw [← HR.out, List.drop_eq_nil_of_le (by omega)]; simp [numR]⟩
      clear hil
      have hlt3 : ¬ (i : Int) < (l.length : Int) := by omega
      have HN : Aside0 (numS most l = (n, l.drop i, decide (0 < i) && decide (n ≤ most))) := ⟨by
        have e : decide ((l.drop i).length < l.length) = decide (0 < i) := decide_eq_decide.2 (by rw [List.length_drop]; omega)
        unfold numS
        rw [← HST.out]
        dsimp only
        rw [e]⟩
      have t9 : (i : Int) ≤ (l.length : Int) := by omega
      clear HST
      by_cases hi0 : 0 < i
      · go_wp2
        go_quiet (fail)
        go_wp2
        simp only [Exit.noGoto]
        go_ret3
        exact ⟨by rw [HN.out, bs_drop']; simp [hi0], HD.out.step _⟩
      · go_wp2
        go_quiet (fail)
        go_wp2
        simp only [Exit.noGoto]
        go_ret3
        exact ⟨by rw [HN.out, bs_drop']; simp [hi0], HD.out.step _⟩
end Go.Proofs.YtpjbllkifjhknaaDoor.Pr
