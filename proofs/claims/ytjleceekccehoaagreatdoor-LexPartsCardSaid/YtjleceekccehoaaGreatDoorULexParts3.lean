/- Texts of this session, cut down to what one claim needs and joined: LexParts3. -/
import Derived.Test.YtjleceekccehoaaGreatDoorUGJ23
set_option linter.unusedVariables false
set_option linter.unusedSimpArgs false
namespace Go.Proofs.YtjleceekccehoaaGreatDoor.Pr
open Go.RowKit Go.Proofs.YtjleceekccehoaaGreatDoorW.PrintWords Go.Proofs.YtjleceekccehoaaGreatDoorW.PrintLast Go.Proofs.YtjleceekccehoaaGreatDoorW.PrintMore

set_option maxHeartbeats 8000000 in
set_option maxRecDepth 100000 in
theorem parts_nil (a b : List UInt8) (ha : a.length ≤ 300) (hb : b.length ≤ 300) (X : List Tok) (hx : lexS 0 a = .ok X) (hy : lexS 0 b = .ok []) (w : World) (hX : LaidW w) :
    Calls Tryz.prog 7 #[.string (bs a), .string (bs b)] w fun e w' => e = .returned (.bool true) ∧ Below w.heap.size w w' := by
  have HX := Aside0.mk hX
  have sa := bs_size a
  have sb := bs_size b
  have a1 : ((a.length : Int) > 300) = False := eq_false (by omega)
  have b1 : ((b.length : Int) > 300) = False := eq_false (by omega)
  have z1 : a.length + 1 ≤ 9223372036854775807 := by omega
  have z2 : a.length + 1 + b.length ≤ 9223372036854775807 := by omega
  have HLA := Aside0.mk ha
  have HLB := Aside0.mk hb
  have hz := parts_law a b X [] hx hy
  rw [List.map_nil, List.append_nil] at hz
  have hcat : bs a ++ (⟨#[10]⟩ : ByteArray) ++ bs b = bs (a ++ 10 :: b) := by rw [show (⟨#[10]⟩ : ByteArray) = bs [10] from rfl, bs_cat, bs_cat]; simp
  have hOK : ∀ (l : List UInt8) (L : List Tok), l.length ≤ 4000 → lexS 0 l = .ok L → Aside0 (∀ W, LaidT8 W → Calls Tryz.prog 18 #[.string (bs l)] W fun e w' => (∃ v, e = .returned (.tuple #[v, .nilIface]) ∧ Kd.R k41 41 w' W.heap.size (fun _ => True) v L) ∧ Below W.heap.size W w') := fun l L hl h => ⟨fun W hW => by
    have h1 := lex_any l hl W hW
    rw [h] at h1
    exact h1⟩
  have HA := hOK a X (by omega) hx
  have HB2 := hOK b [] (by omega) hy
  have HC3 := hOK (a ++ 10 :: b) X (by simp; omega) hz
  have HGX := Aside0.mk (lexS_ge _ a 0 X (Nat.le_refl _) hx)
  clear hOK hX hx hy hz ha hb
  go_enter Tryz.func7, Tryz.ntmps7
  go_wp2_with fail
  refine (awake8_any _ HX.out).mono ?_
  rintro e_ w1 ⟨rfl, hb1⟩
  have HB1 := Aside0.mk hb1
  clear hb1
  go_wp2_with fail
  refine (HA.out _ (HX.out.t.below HB1.out)).mono ?_
  rintro e_ w2 ⟨⟨v2, rfl, hr2⟩, hb2⟩
  have HBB2 := Aside0.mk (below_step HB1.out hb2)
  have HR2 := Aside0.mk hr2
  clear hb2 hr2
  go_wp2_with fail
  refine (HB2.out _ (HX.out.t.below HBB2.out)).mono ?_
  rintro e_ w3 ⟨⟨v3, rfl, hr3⟩, hb3⟩
  have HBB3 := Aside0.mk (below_step HBB2.out hb3)
  have HR23 := Aside0.mk (Kd.R_below (Kd.R_bound HR2.out) hb3)
  have HR3 := Aside0.mk hr3
  have HS23 := Aside0.mk hb3.size
  clear hb3 hr3 HR2
  go_wp2_with fail
  refine (HC3.out _ (HX.out.t.below HBB3.out)).mono ?_
  rintro e_ w4 ⟨⟨v4, rfl, hr4⟩, hb4⟩
  have HBB4 := Aside0.mk (below_step HBB3.out hb4)
  have HR24 := Aside0.mk (Kd.R_below HR23.out hb4)
  have HR34 := Aside0.mk (Kd.R_below (Kd.R_bound HR3.out) hb4)
  have HR4 := Aside0.mk hr4
  have HS34 := Aside0.mk hb4.size
  clear hb4 hr4 HR23 HR3
  obtain ⟨A3, c3, rfl, hc3, hC3⟩ := Kd.R_reads HR34.out
  obtain ⟨A2, c2, rfl, hc2, hC2⟩ := Kd.R_reads HR24.out
  obtain ⟨A4, c4, rfl, hc4, hC4⟩ := Kd.R_reads HR4.out
  have HC2 := Aside0.mk hC2
  have HC3' := Aside0.mk hC3
  have HC4 := Aside0.mk hC4
  have HCC4 := Aside0.mk hc4
  have HLX : Aside0 (X.length ≤ 300) := ⟨by have := HGX.out.2; have := HLA.out; omega⟩
  have HLZ : Aside0 (X.length ≤ 1000000) := ⟨by have := HLX.out; omega⟩
  clear hC2 hC3 hC4 hc2 hc3 hc4
  go_wp2_with fail
  go_loopg [11] 0 (fun q v11 wx => v11 = .int .i64 0 ∧ wx = w4)
  case atStart => exact ⟨rfl, rfl⟩
  case round =>
    obtain ⟨rfl, rfl⟩ := hrel
    go_wp2_with (first
      | ((with_reducible refine gate_builtin (b := .append) (xs := #[.tmp 76, .tmp 77]) rfl ?_); at_builtin; refine wpList_step (Kd.R_append_rows_step k41 (w0 := wr) wr.heap.size (by rfl) (.tmp 76) (.tmp 77) 29 41 _ 32 rfl Tryz.underlying29 info41 rfl (by decide) (by omega) (.slice (some ⟨wr.heap.size, 0, none⟩) 0 0) [] X A2 X.length c2 (fun _ => True) (fun _ => False) rfl rfl ⟨fun _ _ => trivial, OwnRow.lit wr wr.heap.size (Reps.none _ _) (Nat.le_refl _) (by simp)⟩ (Kd.C_below HC2.out (below_alloc (Below.refl _ _) _)) (fun x cs h => flat_Tk _ _ _ x cs h) (fun _ h => h.elim) (fun _ _ => trivial) (below_alloc (Below.refl _ _) _) (by simp) (by simp; have := HLX.out; omega) ?_); intro v5 w5 hr5 hb5 _ _; have HR5 := Aside0.mk hr5; have HB5 := Aside0.mk hb5; clear hr5 hb5)
      | ((with_reducible refine gate_builtin (b := .append) (xs := #[.tmp 78, .tmp 79]) rfl ?_); at_builtin; refine wpList_step (Kd.R_append_rows_step k41 (w0 := wr) wr.heap.size (by rfl) (.tmp 78) (.tmp 79) 29 41 _ 32 rfl Tryz.underlying29 info41 rfl (by decide) (by omega) v5 ([] ++ X) [] A3 0 c3 (fun _ => True) (fun _ => False) rfl rfl HR5.out (Kd.C_below HC3'.out HB5.out) (fun x cs h => flat_Tk _ _ _ x cs h) (fun _ h => h.elim) (fun _ _ => trivial) HB5.out HB5.out.size (by simp; have := HLX.out; omega) ?_); intro v6 w6 hr6 hb6 _ _; have HB6 := Aside0.mk hb6; rw [List.nil_append, List.append_nil] at hr6; obtain ⟨A6, c6, rfl, hc6, hC6⟩ := Kd.R_reads hr6; have HC6 := Aside0.mk hC6; have HCC6 := Aside0.mk hc6; clear hr6 hb6 hc6 hC6)
      | (go_at_call 22; refine (soundingsref08_Same.calls (X.length + 1) A4 c4 X A6 c6 X true _ (Kd.C_below HC4.out HB6.out) HCC4.out HC6.out HCC6.out (same_refl X HLZ.out)).mono ?_; rintro e_ w7 ⟨rfl, hd7⟩; have HB7 := Aside0.mk hd7.below; clear hd7))
    go_ret
    exact ⟨by first | rfl | simp, below_step (below_step HBB4.out HB6.out) HB7.out⟩
set_option maxHeartbeats 4000000 in
set_option maxRecDepth 100000 in
theorem parts_long (a b : List UInt8) (h : 300 < a.length ∨ (a.length ≤ 300 ∧ 300 < b.length)) (w : World) (hX : LaidW w) :
    Calls Tryz.prog 7 #[.string (bs a), .string (bs b)] w fun e w' => e = .returned (.bool true) ∧ Below w.heap.size w w' := by
  have HX := Aside0.mk hX
  have sa := bs_size a
  have sb := bs_size b
  clear hX
  rcases h with h | ⟨h, h2⟩
  · have a1 : (a.length : Int) > 300 := by omega
    clear h
    go_enter Tryz.func7, Tryz.ntmps7
    go_wp2_with fail
    refine (awake8_any _ HX.out).mono ?_
    rintro e_ w1 ⟨rfl, hb1⟩
    have HB1 := Aside0.mk hb1
    clear hb1
    go_wp2_with fail
    go_ret
    exact ⟨by first | rfl | simp, HB1.out⟩
  · have a1 : ((a.length : Int) > 300) = False := eq_false (by omega)
    have b1 : (b.length : Int) > 300 := by omega
    clear h h2
    go_enter Tryz.func7, Tryz.ntmps7
    go_wp2_with fail
    refine (awake8_any _ HX.out).mono ?_
    rintro e_ w1 ⟨rfl, hb1⟩
    have HB1 := Aside0.mk hb1
    clear hb1
    go_wp2_with fail
    go_ret
    exact ⟨by first | rfl | simp, HB1.out⟩
theorem lexparts_any (a b : List UInt8) (w : World) (hX : LaidW w) : Calls Tryz.prog 7 #[.string (bs a), .string (bs b)] w fun e w' => e = .returned (.bool true) ∧ Below w.heap.size w w' := by
  by_cases ha : a.length ≤ 300
  · by_cases hb : b.length ≤ 300
    · cases hx : lexS 0 a with
      | error p => exact parts_bad a b ha hb (Or.inl ⟨p, hx⟩) w hX
      | ok X =>
        cases hy : lexS 0 b with
        | error p => exact parts_bad a b ha hb (Or.inr ⟨⟨X, hx⟩, p, hy⟩) w hX
        | ok Y =>
          by_cases hY : Y = []
          · subst hY; exact parts_nil a b ha hb X hx hy w hX
          · exact parts_good a b ha hb X Y hx hy hY w hX
    · exact parts_long a b (Or.inr ⟨ha, by omega⟩) w hX
  · exact parts_long a b (Or.inl (by omega)) w hX
end Go.Proofs.YtjleceekccehoaaGreatDoor.Pr
