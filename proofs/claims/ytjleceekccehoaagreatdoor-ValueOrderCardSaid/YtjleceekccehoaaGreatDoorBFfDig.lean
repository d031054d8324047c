/- Texts of this session, cut down to what one claim needs and joined: FfDig. -/
import Derived.Test.YtjleceekccehoaaGreatDoorBFfNum
import Derived.Test.YtjleceekccehoaaGreatDoorBFfSt
import Derived.Deep.LoopGhost
import Derived.WalkMore
set_option linter.unusedVariables false
set_option linter.unusedSimpArgs false
namespace Go.Proofs.YtjleceekccehoaaGreatDoor.Pr
open Go.RowKit Go.Proofs.YtjleceekccehoaaGreatDoorW.PrintWords Go.Proofs.YtjleceekccehoaaGreatDoorW.PrintLast Go.Proofs.YtjleceekccehoaaGreatDoorW.PrintMore

/-- n without the noughts that stand at its end. -/
def strip (ds : List Int) : Nat → Nat
  | 0 => 0
  | n + 1 => if ds.getD n 0 = 48 then strip ds n else n + 1
theorem strip_le (ds : List Int) (n : Nat) : strip ds n ≤ n := by
  induction n with
  | zero => exact Nat.le_refl _
  | succ n ih => unfold strip; split <;> omega

set_option maxHeartbeats 4000000 in
set_option maxRecDepth 100000 in
theorem setDigits_any (g : Nat) (ds : List Int) (d p : Int) (n : Nat) (hds : ds.length = 32) (hn : n ≤ 20) (h0 : 0 ≤ d) (h1 : d ≤ 18446744073709551615) (hp0 : -1000 ≤ p) (hp1 : p ≤ 1000) (w : World) (hB : Blk w g 141 (u8s ds)) :
    Calls Tryz.prog 102 #[.slice (some ⟨g, 0, none⟩) 32 32, .int .u64 d, .int .i64 p, .int .i64 n] w fun e w' => e = .returned (.tuple #[.int .i64 (n + p), .int .i64 (strip (b10 4 n d ds) n)]) ∧ Blk w' g 141 (u8s (b10 4 n d ds)) ∧ KB w w' g := by
  have z1 : (n : Int) ≤ 32 := by omega
  have HB := Aside0.mk hB
  have HD := Aside0.mk hds
  obtain ⟨es, hes⟩ : ∃ es, es = b10 4 n d ds := ⟨_, rfl⟩
  have hel : es.length = 32 := by rw [hes, b10_len, hds]
  have HEL := Aside0.mk hel
  have HE := Aside0.mk hes
  rw [← hes]
  clear hB hds hel hes
  go_enter Tryz.func102, Tryz.ntmps102
  go_wp2_with (first | (go_at_call 138; refine (base10_any n hn d h0 h1 g 32 (by omega) _ ds (by have := HD.out; omega) HB.out).mono ?_; rw [← HE.out]; rintro e_ w' ⟨rfl, hb_, hk_⟩; have HB1 := Aside0.mk hb_; have HK1 := Aside0.mk hk_; clear HB hb_ hk_))
  go_loopw [3] (fun v3 wr => ∃ k : Nat, k ≤ n ∧ v3 = .int .i64 k ∧ Aside0 (strip es k = strip es n) ∧ Aside0 (Blk wr g 141 (u8s es)) ∧ Aside0 (KB w wr g)) (fun v3 _ => (intOf v3).toNat)
  case atStart => exact ⟨n, Nat.le_refl _, rfl, ⟨rfl⟩, HB1, HK1⟩
  case round =>
    clear HB1 HK1
    obtain ⟨k, hk, rfl, HS, HB, HK⟩ := hrel
    by_cases hk0 : 0 < k
    · obtain ⟨dk, hdk⟩ : ∃ x, es[k - 1]? = some x := ⟨es[k - 1]'(by have := HEL.out; omega), List.getElem?_eq_getElem (by have := HEL.out; omega)⟩
      have ck := HB.out.u8_at (k - 1) dk hdk
      have e1 : ((k : Int) - 1).toNat = k - 1 := by omega
      have b1 : (0 : Int) ≤ (k : Int) - 1 := by omega
      have b2 : (k : Int) - 1 < 32 := by omega
      have HDK : Aside0 (es.getD (k - 1) 0 = dk) := ⟨by simp [List.getD, hdk]⟩
      clear hdk
      by_cases h48 : dk = 48
      · have t1 : (dk == 48) = true := beq_iff_eq.2 h48
        have HS2 : Aside0 (strip es (k - 1) = strip es n) := ⟨by
          rw [← HS.out]; obtain ⟨j, rfl⟩ : ∃ j, k = j + 1 := ⟨k - 1, by omega⟩
          have := HDK.out; simp only [Nat.add_sub_cancel] at this ⊢
          rw [strip, if_pos (this.trans h48)]⟩
        clear h48
        go_wp2
        go_roundw
        case rel => exact ⟨k - 1, by omega, by go_num, HS2, HB, HK⟩
        case measure => simp [intOf]; omega
      · have t1 : (dk == 48) = false := beq_eq_false_iff_ne.2 h48
        have HS2 : Aside0 (strip es n = k) := ⟨by
          rw [← HS.out]; obtain ⟨j, rfl⟩ : ∃ j, k = j + 1 := ⟨k - 1, by omega⟩
          have := HDK.out; simp only [Nat.add_sub_cancel] at this ⊢
          rw [strip, if_neg (by rw [this]; exact h48)]⟩
        clear h48
        go_wp2
        go_ret2
        exact ⟨by rw [HS2.out]; rfl, HB.out, HK.out⟩
    · obtain rfl : k = 0 := by omega
      have HS2 : Aside0 (strip es n = 0) := ⟨by rw [← HS.out]; rfl⟩
      go_wp2
      go_ret2
      exact ⟨by rw [HS2.out]; first | rfl | simp, HB.out, HK.out⟩
end Go.Proofs.YtjleceekccehoaaGreatDoor.Pr
