/- Texts of this session, cut down to what one claim needs and joined: LexTokens3. -/
import Derived.Test.YtjleceekccehoaaGreatDoorVGJ27
set_option linter.unusedVariables false
set_option linter.unusedSimpArgs false
namespace Go.Proofs.YtjleceekccehoaaGreatDoor.Pr
open Go.RowKit Go.Proofs.YtjleceekccehoaaGreatDoorW.PrintWords Go.Proofs.YtjleceekccehoaaGreatDoorW.PrintLast Go.Proofs.YtjleceekccehoaaGreatDoorW.PrintMore

set_option maxHeartbeats 4000000 in
set_option maxRecDepth 100000 in
theorem tokens_long (s : List UInt8) (h : 4400 < s.length) (w : World) (hX : LaidW w) : Calls Tryz.prog 5 #[.string (bs s)] w fun e w' => e = .returned (.bool true) ∧ Below w.heap.size w w' := by
 have HX := Aside0.mk hX
 have sa := bs_size s
 have a1 : (s.length : Int) > 4400 := by omega
 clear h hX
 go_enter Tryz.func5, Tryz.ntmps5
 go_wp2_with fail
 refine (awake8_any _ HX.out).mono ?_
 rintro e_ w1 ⟨rfl, hb1⟩
 have HB1 := Aside0.mk hb1
 clear hb1
 go_wp2_with fail
 go_ret
 exact ⟨by first | rfl | simp, HB1.out⟩
set_option maxHeartbeats 4000000 in
set_option maxRecDepth 100000 in
theorem tokens_11 (s : List UInt8) (h : s.length ≤ 4400) (h2 : 4000 < s.length) (w : World) (hX : LaidW w) : Calls Tryz.prog 5 #[.string (bs s)] w fun e w' => e = .returned (.bool true) ∧ Below w.heap.size w w' := by
 have HX := Aside0.mk hX
 have sa := bs_size s
 have a1 : ((s.length : Int) > 4400) = False := eq_false (by omega)
 have HA := Aside0.mk (fun W => lex_long s h2 W)
 have HR := Aside0.mk (fun W => rlex_long s h2 W)
 clear h hX h2
 go_enter Tryz.func5, Tryz.ntmps5
 go_wp2_with fail
 refine (awake8_any _ HX.out).mono ?_
 rintro e_ w1 ⟨rfl, hb1⟩
 have HB1 := Aside0.mk hb1
 clear hb1
 go_wp2_with fail
 refine (HA.out _).mono ?_
 rintro e_ w2 ⟨rfl, rfl⟩
 go_wp2_with fail
 refine (HR.out _).mono ?_
 rintro e_ w3 ⟨rfl, rfl⟩
 go_wp2_with fail
 refine (code_hit 11 (by decide) _ (HX.out.below HB1.out).e).mono ?_
 rintro e_ w4 ⟨rfl, hb4⟩
 have HB4 := Aside0.mk (below_step HB1.out hb4)
 clear hb4
 go_wp2_with fail
 go_ret
 exact ⟨by first | rfl | simp, HB4.out⟩
theorem C_nil (W : World) : Kd.C k41 W none 0 [] := ⟨rfl, by decide, fun h => absurd h (by simp)⟩
set_option maxHeartbeats 4000000 in
set_option maxRecDepth 100000 in
theorem tokens_err (s : List UInt8) (h : s.length ≤ 4000) (p : Nat) (hp : lexS 0 s = .error p) (w : World) (hX : LaidW w) : Calls Tryz.prog 5 #[.string (bs s)] w fun e w' => e = .returned (.bool true) ∧ Below w.heap.size w w' := by
 have HX := Aside0.mk hX
 have sa := bs_size s
 have a1 : ((s.length : Int) > 4400) = False := eq_false (by omega)
 have HA : Aside0 (∀ W, LaidT8 W → Calls Tryz.prog 18 #[.string (bs s)] W fun e w' => (∃ g, e = .returned (.tuple #[.slice none 0 0, .iface 61 (.pointer (some ⟨g, 0, none⟩))]) ∧ W.heap.size ≤ g ∧ w'.heap[g]? = some (.cells #[.int .i64 p, .iface 55 (.int .i64 5)] 63 (0, 0))) ∧ Below W.heap.size W w') := ⟨fun W hW => by have h1 := lex_any s h W hW; rw [hp] at h1; exact h1⟩
 have HR : Aside0 (∀ W, LaidT8 W → Calls Tryz.prog 19 #[.string (bs s)] W fun e w' => e = .returned (.tuple #[.slice none 0 0, .int .i64 5, .int .i64 p]) ∧ Below W.heap.size W w') := ⟨fun W hW => by have h1 := rlex_any s h W hW.m.n hW.m.s; rw [hp] at h1; exact h1⟩
 clear h hX hp
 go_enter Tryz.func5, Tryz.ntmps5
 go_wp2_with fail
 refine (awake8_any _ HX.out).mono ?_
 rintro e_ w1 ⟨rfl, hb1⟩
 have HB1 := Aside0.mk hb1
 clear hb1
 go_wp2_with fail
 refine (HA.out _ (HX.out.t.below HB1.out)).mono ?_
 rintro e_ w2 ⟨⟨g, rfl, hg, hh⟩, hb2⟩
 have HB2 := Aside0.mk (below_step HB1.out hb2)
 have HH := Aside0.mk hh
 clear hb2 hg hh
 go_wp2_with fail
 refine (HR.out _ (HX.out.t.below HB2.out)).mono ?_
 rintro e_ w3 ⟨rfl, hb3⟩
 have HB3 := Aside0.mk (below_step HB2.out hb3)
 have hh3 := (hb3.block g (heap_lt HH.out)).trans HH.out
 have HG0 : Aside0 (w3.cell? ⟨g, 0, none⟩ = some (.int .i64 p)) := ⟨(blk_cell hh3 0).trans rfl⟩
 have HG1 : Aside0 (w3.cell? ⟨g, 1, none⟩ = some (.iface 55 (.int .i64 5))) := ⟨(blk_cell hh3 1).trans rfl⟩
 clear hb3 hh3 HH
 go_wp2_with fail
 refine (Fault_hit 5 (by decide) p g _ (HX.out.e.below HB3.out) HG0.out HG1.out).mono ?_
 rintro e_ w4 ⟨rfl, hb4⟩
 have HB4 := Aside0.mk (below_step HB3.out hb4)
 clear hb4
 go_wp2_with fail
 refine (soundingsref08_Same.calls 1 none 0 [] none 0 [] true _ (C_nil _) (Nat.le_refl _) (C_nil _) (Nat.le_refl _) (same_refl [] (by simp))).mono ?_
 rintro e_ w5 ⟨rfl, hd5⟩
 have HB5 := Aside0.mk (below_step HB4.out hd5.below)
 clear hd5
 go_wp2_with fail
 go_ret
 exact ⟨by first | rfl | simp, HB5.out⟩
set_option maxHeartbeats 4000000 in
set_option maxRecDepth 100000 in
theorem tokens_ok (s : List UInt8) (h : s.length ≤ 4000) (L : List Tok) (hp : lexS 0 s = .ok L) (w : World) (hX : LaidW w) : Calls Tryz.prog 5 #[.string (bs s)] w fun e w' => e = .returned (.bool true) ∧ Below w.heap.size w w' := by
 have HX := Aside0.mk hX
 have sa := bs_size s
 have a1 : ((s.length : Int) > 4400) = False := eq_false (by omega)
 have HLZ : Aside0 (L.length ≤ 1000000) := ⟨by have := (lexS_ge _ s 0 L (Nat.le_refl _) hp).2; omega⟩
 have HA : Aside0 (∀ W, LaidT8 W → Calls Tryz.prog 18 #[.string (bs s)] W fun e w' => (∃ v, e = .returned (.tuple #[v, .nilIface]) ∧ Kd.R k41 41 w' W.heap.size (fun _ => True) v L) ∧ Below W.heap.size W w') := ⟨fun W hW => by have h1 := lex_any s h W hW; rw [hp] at h1; exact h1⟩
 have HR : Aside0 (∀ W, LaidT8 W → Calls Tryz.prog 19 #[.string (bs s)] W fun e w' => (∃ v, e = .returned (.tuple #[v, .int .i64 0, .int .i64 0]) ∧ Kd.R k41 41 w' W.heap.size (fun _ => True) v L) ∧ Below W.heap.size W w') := ⟨fun W hW => by have h1 := rlex_any s h W hW.m.n hW.m.s; rw [hp] at h1; exact h1⟩
 clear h hX hp
 go_enter Tryz.func5, Tryz.ntmps5
 go_wp2_with fail
 refine (awake8_any _ HX.out).mono ?_
 rintro e_ w1 ⟨rfl, hb1⟩
 have HB1 := Aside0.mk hb1
 clear hb1
 go_wp2_with fail
 refine (HA.out _ (HX.out.t.below HB1.out)).mono ?_
 rintro e_ w2 ⟨⟨v2, rfl, hr2⟩, hb2⟩
 have HB2 := Aside0.mk (below_step HB1.out hb2)
 have HR2 := Aside0.mk hr2
 clear hb2 hr2
 go_wp2_with fail
 refine (HR.out _ (HX.out.t.below HB2.out)).mono ?_
 rintro e_ w3 ⟨⟨v3, rfl, hr3⟩, hb3⟩
 have HB3 := Aside0.mk (below_step HB2.out hb3)
 have HR23 := Aside0.mk (Kd.R_below (Kd.R_bound HR2.out) hb3)
 have HR3 := Aside0.mk hr3
 clear hb3 hr3 HR2
 obtain ⟨A2, c2, rfl, hc2, hC2⟩ := Kd.R_reads HR23.out
 obtain ⟨A3, c3, rfl, hc3, hC3⟩ := Kd.R_reads HR3.out
 have HC2 := Aside0.mk hC2
 have HC3 := Aside0.mk hC3
 have HCC2 := Aside0.mk hc2
 have HCC3 := Aside0.mk hc3
 clear hC2 hC3 hc2 hc3
 go_wp2_with fail
 refine (Fault_nil 0 _).mono ?_
 rintro e_ w4 ⟨rfl, rfl⟩
 go_wp2_with fail
 refine (soundingsref08_Same.calls (L.length + 1) A2 c2 L A3 c3 L true _ HC2.out HCC2.out HC3.out HCC3.out (same_refl L HLZ.out)).mono ?_
 rintro e_ w5 ⟨rfl, hd5⟩
 have HB5 := Aside0.mk (below_step HB3.out hd5.below)
 clear hd5
 go_wp2_with fail
 go_ret
 exact ⟨by first | rfl | simp, HB5.out⟩
theorem lextokens_any (s : List UInt8) (w : World) (hX : LaidW w) : Calls Tryz.prog 5 #[.string (bs s)] w fun e w' => e = .returned (.bool true) ∧ Below w.heap.size w w' := by
 by_cases h : s.length ≤ 4400
 ·by_cases h2 : s.length ≤ 4000
  ·cases hp : lexS 0 s with
   | error p => exact tokens_err s h2 p hp w hX
   | ok L => exact tokens_ok s h2 L hp w hX
  ·exact tokens_11 s h (by omega) w hX
 ·exact tokens_long s (by omega) w hX
end Go.Proofs.YtjleceekccehoaaGreatDoor.Pr
