/- Texts of this session, cut down to what one claim needs and joined: FfFmt. -/
import Derived.Test.YtjleceekccehoaaGreatDoorBFfMain
import Derived.Test.YtjleceekccehoaaGreatDoorBPrSoundingsref04IsNone
set_option linter.unusedVariables false
set_option linter.unusedSimpArgs false
namespace Go.Proofs.YtjleceekccehoaaGreatDoor.Pr
open Go.RowKit Go.Proofs.YtjleceekccehoaaGreatDoorW.PrintWords Go.Proofs.YtjleceekccehoaaGreatDoorW.PrintLast Go.Proofs.YtjleceekccehoaaGreatDoorW.PrintMore
attribute [local go_sem] max2_int min2_int max_two min_two

theorem ftoa_any (b : Nat) (hb : b < 18446744073709551616) (w0 w : World) (v : Value) (h : St w0 none [] w v []) (hL : LaidF w0) :
    Calls Tryz.prog 68 #[v, .float .f64 b, .int .u8 103, .int .i64 (-1)] w fun e w' => ∃ v', e = .returned v' ∧ Tells w' v' (textV b) ∧ Below w0.heap.size w0 w' := by
  unfold textV
  simp only
  by_cases h1 : (b : Int) / 4503599627370496 % 2048 = 2047
  · rw [if_pos h1]
    by_cases h2 : (b : Int) % 4503599627370496 = 0
    · rw [if_neg (by simp [h2])]
      by_cases h3 : ((b : Int) / 9223372036854775808 != 0) = true
      · rw [if_pos h3]; exact ftoa_ninf b hb w0 w v h h1 h2 h3
      · rw [if_neg h3]; exact ftoa_pinf b hb w0 w v h h1 h2 (by simpa using h3)
    · rw [if_pos h2]; exact ftoa_nan b hb w0 w v h h1 h2
  · rw [if_neg h1]
    by_cases h2 : (b : Int) / 4503599627370496 % 2048 = 0
    · rw [if_pos h2]
      by_cases h4 : (b : Int) % 4503599627370496 = 0
      · rw [if_pos h4]
        by_cases h3 : ((b : Int) / 9223372036854775808 != 0) = true
        · rw [if_pos h3]; exact ftoa_zero_t b hb w0 w v h h2 h4 h3
        · rw [if_neg h3]; exact ftoa_zero_f b hb w0 w v h h2 h4 (by simpa using h3)
      · rw [if_neg h4]; exact ftoa_sub b hb w0 w v h hL h2 h4
    · rw [if_neg h2]; exact ftoa_norm b hb w0 w v h hL h1 h2

theorem St.made (w : World) (cur : Array Value) (hc : cur.size = 24) : St w none [] (w.alloc (.cells cur 5)) (.slice (some ⟨w.heap.size, 0, none⟩) 0 24) [] :=
  ⟨⟨fun k _ => by simp, ⟨[], World.ownsRow_made w cur 24 (Nat.le_refl _) (by unfold maxLen; omega) (by rw [hc]; rfl), Reps.none _ _⟩⟩, (fun g hg => by simp at hg), below_alloc (Below.refl _ _) _⟩
def row24 : Array Value := u8s (List.replicate 24 0)
theorem mk24 (w : World) : (Instr.makeSlice 97 (.int .i64 0) (.int .i64 24)).run Tryz.prog w = .ok (.slice (some ⟨w.heap.size, 0, none⟩) 0 24) (w.alloc (.cells row24 5)) := by kernel_rfl
theorem row24_size : row24.size = 24 := by simp [row24, u8s]
set_option maxHeartbeats 1000000 in
set_option maxRecDepth 100000 in
theorem formatI_any (b : Nat) (hb : b < 18446744073709551616) (w : World) (hL : LaidF w) :
    Calls Tryz.prog 44 #[.float .f64 b, .int .u8 103, .int .i64 (-1), .int .i64 64] w fun e w' => e = .returned (.string (strOfNums (textV b))) ∧ Below w.heap.size w w' := by
  have HL := Aside0.mk hL
  clear hL
  have hmk := mk24
  go_enter Tryz.func44, Tryz.ntmps44
  go_wp2_with (first | (go_at_call 68; refine (ftoa_any b hb w _ _ (St.made w _ row24_size) HL.out).mono ?_; rintro e_ w' ⟨v_, rfl, hT_, hB_⟩; unfold Tells at hT_; have HB := Aside0.mk hB_; clear hB_))
  go_ret
  exact ⟨rfl, HB.out⟩
theorem format_any (b : Nat) (hb : b < 18446744073709551616) (w : World) (hL : LaidF w) :
    Calls Tryz.prog 30 #[.float .f64 b, .int .u8 103, .int .i64 (-1), .int .i64 64] w fun e w' => e = .returned (.string (strOfNums (textV b))) ∧ Below w.heap.size w w' := by
  go_enter Tryz.func30, Tryz.ntmps30
  go_wp2_with (first | (go_at_call 44; refine (formatI_any b hb _ hL).mono ?_; rintro e_ w' ⟨rfl, hB_⟩; have HB := Aside0.mk hB_; clear hB_))
  go_ret
  exact ⟨rfl, HB.out⟩
end Go.Proofs.YtjleceekccehoaaGreatDoor.Pr
