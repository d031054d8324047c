/- Span: awake and the three laws: walks (written by wip/spanl.py). -/
import Derived.Test.YtpjbllkifjhknaaDoorPureP
import Derived.Test.YtpjbllkifjhknaaDoorPureS
set_option linter.unusedVariables false
set_option linter.unusedSimpArgs false
namespace Go.Proofs.YtpjbllkifjhknaaDoor.Pr
open Go.RowKit Go.Proofs.YtpjbllkifjhknaaDoorW.PrintWords Go.Proofs.YtpjbllkifjhknaaDoorW.PrintLast Go.Proofs.YtpjbllkifjhknaaDoorW.PrintMore

def LaidAll (w : World) : Prop := LaidE w ∧ LaidU w ∧ LaidP w
theorem LaidAll.below {w w' : World} (h : LaidAll w) (hb : Below w.heap.size w w') : LaidAll w' := ⟨h.1.below hb, h.2.1.below hb, h.2.2.below hb⟩

set_option maxHeartbeats 8000000 in
set_option maxRecDepth 100000 in
theorem awake_any (w : World) (h : LaidAll w) : Calls Tryd.prog 6 #[] w fun e w' => e = .returned (.bool true) ∧ Below w.heap.size w w' := by
  replace h := Aside0.mk h
  have q1 : parseS [49, 104, 51, 48, 109] = some 5400000 := by rfl
  have q2 : parseS [51, 48, 109, 49, 104] = none := by rfl
  have q3 : textS 5400000 = some [49, 104, 51, 48, 109] := text_awake
  have HP1 : Aside0 (∀ w', Below w.heap.size w w' → Calls Tryd.prog 7 #[.string ⟨#[49, 104, 51, 48, 109]⟩] w' fun e w'' => e = .returned (.tuple #[.int .i64 5400000, .nilIface]) ∧ Below w'.heap.size w' w'') := ⟨fun w' hb => by
    have h := parse_any [49, 104, 51, 48, 109] (by decide) w' (h.out.2.1.below hb)
    rw [q1] at h
    exact h⟩
  have HP2 : Aside0 (∀ w', Below w.heap.size w w' → Calls Tryd.prog 7 #[.string ⟨#[51, 48, 109, 49, 104]⟩] w' fun e w'' => e = .returned (.tuple #[.int .i64 0, .iface 38 (.int .i64 13)]) ∧ Below w'.heap.size w' w'') := ⟨fun w' hb => by
    have h := parse_any [51, 48, 109, 49, 104] (by decide) w' (h.out.2.1.below hb)
    rw [q2] at h
    exact h⟩
  have HT1 : Aside0 (∀ w', Below w.heap.size w w' → Calls Tryd.prog 10 #[.int .i64 5400000] w' fun e w'' => e = .returned (.tuple #[.string ⟨#[49, 104, 51, 48, 109]⟩, .nilIface]) ∧ Below w'.heap.size w' w'') := ⟨fun w' hb => by
    have h := text_any 5400000 (by decide) (by decide) w' (h.out.2.1.below hb) (h.out.2.2.below hb)
    rw [q3] at h
    exact h⟩
  have HC : Aside0 (∀ w', Below w.heap.size w w' → Calls Tryd.prog 9 #[.iface 38 (.int .i64 13)] w' fun e w'' => e = .returned (.int .i64 13) ∧ Below w'.heap.size w' w'') := ⟨fun w' hb => code_hit 13 (by decide) w' (h.out.1.below hb)⟩
  clear q1 q2 q3
  go_enter Tryd.func6, Tryd.ntmps6
  go_wp2_with (go_at_call 7; refine (HP1.out _ (by first | exact Below.refl _ _ | exact below_drew (Below.refl _ _) | exact pw_below_drewN (Below.refl _ _) _)).mono ?_; rintro e w1 ⟨rfl, hb⟩; have HB1 := Aside0.mk (below_step (by first | exact Below.refl _ _ | exact below_drew (Below.refl _ _) | exact pw_below_drewN (Below.refl _ _) _) hb); clear hb; clear HP1)
  go_wp2_with (go_at_call 10; refine (HT1.out _ (by first | exact HB1.out | exact below_drew HB1.out | exact pw_below_drewN HB1.out _ | exact below_alloc HB1.out _)).mono ?_; rintro e w2 ⟨rfl, hb⟩; have HB2 := Aside0.mk (below_step (by first | exact HB1.out | exact below_drew HB1.out | exact pw_below_drewN HB1.out _ | exact below_alloc HB1.out _) hb); clear hb; clear HT1)
  go_wp2_with (go_at_call 7; refine (HP2.out _ (by first | exact HB2.out | exact below_drew HB2.out | exact pw_below_drewN HB2.out _ | exact below_alloc HB2.out _)).mono ?_; rintro e w3 ⟨rfl, hb⟩; have HB3 := Aside0.mk (below_step (by first | exact HB2.out | exact below_drew HB2.out | exact pw_below_drewN HB2.out _ | exact below_alloc HB2.out _) hb); clear hb; clear HP2)
  go_wp2_with (go_at_call 9; refine (HC.out _ (by first | exact HB3.out | exact below_drew HB3.out | exact pw_below_drewN HB3.out _ | exact below_alloc HB3.out _)).mono ?_; rintro e w4 ⟨rfl, hb⟩; have HB4 := Aside0.mk (below_step (by first | exact HB3.out | exact below_drew HB3.out | exact pw_below_drewN HB3.out _ | exact below_alloc HB3.out _) hb); clear hb; clear HC)
  go_ret
  exact ⟨rfl, HB4.out⟩

set_option maxHeartbeats 8000000 in
set_option maxRecDepth 100000 in
theorem parses_any (l : List UInt8) (w : World) (h : LaidAll w) : Calls Tryd.prog 3 #[.string (bs l)] w fun e w' => e = .returned (.bool true) ∧ Below w.heap.size w w' := by
  replace h := Aside0.mk h
  have hsz := bs_size l
  have HAW : Aside0 (∀ w', Below w.heap.size w w' → Calls Tryd.prog 6 #[] w' fun e w'' => e = .returned (.bool true) ∧ Below w'.heap.size w' w'') := ⟨fun w' hb => awake_any w' (h.out.below hb)⟩
  by_cases h4 : (400 : Int) < (l.length : Int)
  · go_enter Tryd.func3, Tryd.ntmps3
    go_wp2_with (go_at_call 6; refine (HAW.out _ (by first | exact Below.refl _ _ | exact below_drew (Below.refl _ _) | exact pw_below_drewN (Below.refl _ _) _)).mono ?_; rintro e w1 ⟨rfl, hb⟩; have HB1 := Aside0.mk (below_step (by first | exact Below.refl _ _ | exact below_drew (Below.refl _ _) | exact pw_below_drewN (Below.refl _ _) _) hb); clear hb; clear HAW)
    go_ret
    exact ⟨rfl, HB1.out⟩
  have hr := rparse_some l (by omega)
  have HC : Aside0 (∀ w', Below w.heap.size w w' → Calls Tryd.prog 9 #[.iface 38 (.int .i64 13)] w' fun e w'' => e = .returned (.int .i64 13) ∧ Below w'.heap.size w' w'') := ⟨fun w' hb => code_hit 13 (by decide) w' (h.out.1.below hb)⟩
  cases hp : parseS l with
  | none =>
    rw [hp] at hr
    have HP1 : Aside0 (∀ w', Below w.heap.size w w' → Calls Tryd.prog 7 #[.string (bs l)] w' fun e w'' => e = .returned (.tuple #[.int .i64 0, .iface 38 (.int .i64 13)]) ∧ Below w'.heap.size w' w'') := ⟨fun w' hb => by
      have h := parse_any l (by omega) w' (h.out.2.1.below hb)
      rw [hp] at h
      exact h⟩
    have HR : Aside0 (∀ w', Calls Tryd.prog 8 #[.string (bs l)] w' fun e w'' => e = .returned (.tuple #[.int .i64 0, .bool false]) ∧ Below w'.heap.size w' w'') := ⟨fun w' => soundingsref07_Parse.calls 5000 (bs l) 0 false w' hr⟩
    clear hr hp
    go_enter Tryd.func3, Tryd.ntmps3
    go_wp2_with (go_at_call 6; refine (HAW.out _ (by first | exact Below.refl _ _ | exact below_drew (Below.refl _ _) | exact pw_below_drewN (Below.refl _ _) _)).mono ?_; rintro e w1 ⟨rfl, hb⟩; have HB1 := Aside0.mk (below_step (by first | exact Below.refl _ _ | exact below_drew (Below.refl _ _) | exact pw_below_drewN (Below.refl _ _) _) hb); clear hb; clear HAW)
    go_wp2_with (go_at_call 7; refine (HP1.out _ (by first | exact HB1.out | exact below_drew HB1.out | exact pw_below_drewN HB1.out _ | exact below_alloc HB1.out _)).mono ?_; rintro e w2 ⟨rfl, hb⟩; have HB2 := Aside0.mk (below_step (by first | exact HB1.out | exact below_drew HB1.out | exact pw_below_drewN HB1.out _ | exact below_alloc HB1.out _) hb); clear hb; clear HP1)
    go_wp2_with (go_at_call 8; refine (HR.out _).mono ?_; rintro e w3 ⟨rfl, hb⟩; have HB3 := Aside0.mk (below_step (by first | exact HB2.out | exact below_drew HB2.out | exact pw_below_drewN HB2.out _ | exact below_alloc HB2.out _) hb); clear hb; clear HR)
    go_wp2_with (go_at_call 9; refine (HC.out _ (by first | exact HB3.out | exact below_drew HB3.out | exact pw_below_drewN HB3.out _ | exact below_alloc HB3.out _)).mono ?_; rintro e w4 ⟨rfl, hb⟩; have HB4 := Aside0.mk (below_step (by first | exact HB3.out | exact below_drew HB3.out | exact pw_below_drewN HB3.out _ | exact below_alloc HB3.out _) hb); clear hb; clear HC)
    go_ret
    exact ⟨rfl, HB4.out⟩
  | some v =>
    rw [hp] at hr
    have HP1 : Aside0 (∀ w', Below w.heap.size w w' → Calls Tryd.prog 7 #[.string (bs l)] w' fun e w'' => e = .returned (.tuple #[.int .i64 v, .nilIface]) ∧ Below w'.heap.size w' w'') := ⟨fun w' hb => by
      have h := parse_any l (by omega) w' (h.out.2.1.below hb)
      rw [hp] at h
      exact h⟩
    have HR : Aside0 (∀ w', Calls Tryd.prog 8 #[.string (bs l)] w' fun e w'' => e = .returned (.tuple #[.int .i64 v, .bool true]) ∧ Below w'.heap.size w' w'') := ⟨fun w' => soundingsref07_Parse.calls 5000 (bs l) v true w' hr⟩
    clear hr hp
    go_enter Tryd.func3, Tryd.ntmps3
    go_wp2_with (go_at_call 6; refine (HAW.out _ (by first | exact Below.refl _ _ | exact below_drew (Below.refl _ _) | exact pw_below_drewN (Below.refl _ _) _)).mono ?_; rintro e w1 ⟨rfl, hb⟩; have HB1 := Aside0.mk (below_step (by first | exact Below.refl _ _ | exact below_drew (Below.refl _ _) | exact pw_below_drewN (Below.refl _ _) _) hb); clear hb; clear HAW)
    go_wp2_with (go_at_call 7; refine (HP1.out _ (by first | exact HB1.out | exact below_drew HB1.out | exact pw_below_drewN HB1.out _ | exact below_alloc HB1.out _)).mono ?_; rintro e w2 ⟨rfl, hb⟩; have HB2 := Aside0.mk (below_step (by first | exact HB1.out | exact below_drew HB1.out | exact pw_below_drewN HB1.out _ | exact below_alloc HB1.out _) hb); clear hb; clear HP1)
    go_wp2_with (go_at_call 8; refine (HR.out _).mono ?_; rintro e w3 ⟨rfl, hb⟩; have HB3 := Aside0.mk (below_step (by first | exact HB2.out | exact below_drew HB2.out | exact pw_below_drewN HB2.out _ | exact below_alloc HB2.out _) hb); clear hb; clear HR)
    go_ret
    exact ⟨by simp, HB3.out⟩

set_option maxHeartbeats 8000000 in
set_option maxRecDepth 100000 in
theorem texts_any (v : Int) (h0 : -9223372036854775808 ≤ v) (h1 : v ≤ 9223372036854775807) (w : World) (h : LaidAll w) : Calls Tryd.prog 4 #[.int .i64 v] w fun e w' => e = .returned (.bool true) ∧ Below w.heap.size w w' := by
  replace h := Aside0.mk h
  have HAW : Aside0 (∀ w', Below w.heap.size w w' → Calls Tryd.prog 6 #[] w' fun e w'' => e = .returned (.bool true) ∧ Below w'.heap.size w' w'') := ⟨fun w' hb => awake_any w' (h.out.below hb)⟩
  have HC : Aside0 (∀ w', Below w.heap.size w w' → Calls Tryd.prog 9 #[.iface 38 (.int .i64 13)] w' fun e w'' => e = .returned (.int .i64 13) ∧ Below w'.heap.size w' w'') := ⟨fun w' hb => code_hit 13 (by decide) w' (h.out.1.below hb)⟩
  have hr := rtext_some v
  cases ht : textS v with
  | none =>
    rw [ht] at hr
    have HT1 : Aside0 (∀ w', Below w.heap.size w w' → Calls Tryd.prog 10 #[.int .i64 v] w' fun e w'' => e = .returned (.tuple #[.string ⟨#[]⟩, .iface 38 (.int .i64 13)]) ∧ Below w'.heap.size w' w'') := ⟨fun w' hb => by
      have h := text_any v (h0) (h1) w' (h.out.2.1.below hb) (h.out.2.2.below hb)
      rw [ht] at h
      exact h⟩
    have HR : Aside0 (∀ w', Calls Tryd.prog 11 #[.int .i64 v] w' fun e w'' => e = .returned (.tuple #[.string ⟨#[]⟩, .bool false]) ∧ Below w'.heap.size w' w'') := ⟨fun w' => soundingsref07_Text.calls 100 v ⟨#[]⟩ false w' hr⟩
    clear hr ht
    go_enter Tryd.func4, Tryd.ntmps4
    go_wp2_with (go_at_call 6; refine (HAW.out _ (by first | exact Below.refl _ _ | exact below_drew (Below.refl _ _) | exact pw_below_drewN (Below.refl _ _) _)).mono ?_; rintro e w1 ⟨rfl, hb⟩; have HB1 := Aside0.mk (below_step (by first | exact Below.refl _ _ | exact below_drew (Below.refl _ _) | exact pw_below_drewN (Below.refl _ _) _) hb); clear hb; clear HAW)
    go_wp2_with (go_at_call 10; refine (HT1.out _ (by first | exact HB1.out | exact below_drew HB1.out | exact pw_below_drewN HB1.out _ | exact below_alloc HB1.out _)).mono ?_; rintro e w2 ⟨rfl, hb⟩; have HB2 := Aside0.mk (below_step (by first | exact HB1.out | exact below_drew HB1.out | exact pw_below_drewN HB1.out _ | exact below_alloc HB1.out _) hb); clear hb; clear HT1)
    go_wp2_with (go_at_call 11; refine (HR.out _).mono ?_; rintro e w3 ⟨rfl, hb⟩; have HB3 := Aside0.mk (below_step (by first | exact HB2.out | exact below_drew HB2.out | exact pw_below_drewN HB2.out _ | exact below_alloc HB2.out _) hb); clear hb; clear HR)
    go_wp2_with (go_at_call 9; refine (HC.out _ (by first | exact HB3.out | exact below_drew HB3.out | exact pw_below_drewN HB3.out _ | exact below_alloc HB3.out _)).mono ?_; rintro e w4 ⟨rfl, hb⟩; have HB4 := Aside0.mk (below_step (by first | exact HB3.out | exact below_drew HB3.out | exact pw_below_drewN HB3.out _ | exact below_alloc HB3.out _) hb); clear hb; clear HC)
    go_ret
    exact ⟨rfl, HB4.out⟩
  | some t =>
    rw [ht] at hr
    have hb := textS_bounds v t ht
    have hp := parse_text v hb.1 hb.2
    rw [ht] at hp
    change parseS t = some v at hp
    have hsz := bs_size t
    have htl := parseS_len t v hp
    have HT1 : Aside0 (∀ w', Below w.heap.size w w' → Calls Tryd.prog 10 #[.int .i64 v] w' fun e w'' => e = .returned (.tuple #[.string (bs t), .nilIface]) ∧ Below w'.heap.size w' w'') := ⟨fun w' hb => by
      have h := text_any v (h0) (h1) w' (h.out.2.1.below hb) (h.out.2.2.below hb)
      rw [ht] at h
      exact h⟩
    have HR : Aside0 (∀ w', Calls Tryd.prog 11 #[.int .i64 v] w' fun e w'' => e = .returned (.tuple #[.string (bs t), .bool true]) ∧ Below w'.heap.size w' w'') := ⟨fun w' => soundingsref07_Text.calls 100 v (bs t) true w' hr⟩
    have HP1 : Aside0 (∀ w', Below w.heap.size w w' → Calls Tryd.prog 7 #[.string (bs t)] w' fun e w'' => e = .returned (.tuple #[.int .i64 v, .nilIface]) ∧ Below w'.heap.size w' w'') := ⟨fun w' hb => by
      have h := parse_any t (by omega) w' (h.out.2.1.below hb)
      rw [hp] at h
      exact h⟩
    clear hr ht hp htl
    go_enter Tryd.func4, Tryd.ntmps4
    go_wp2_with (go_at_call 6; refine (HAW.out _ (by first | exact Below.refl _ _ | exact below_drew (Below.refl _ _) | exact pw_below_drewN (Below.refl _ _) _)).mono ?_; rintro e w1 ⟨rfl, hb⟩; have HB1 := Aside0.mk (below_step (by first | exact Below.refl _ _ | exact below_drew (Below.refl _ _) | exact pw_below_drewN (Below.refl _ _) _) hb); clear hb; clear HAW)
    go_wp2_with (go_at_call 10; refine (HT1.out _ (by first | exact HB1.out | exact below_drew HB1.out | exact pw_below_drewN HB1.out _ | exact below_alloc HB1.out _)).mono ?_; rintro e w2 ⟨rfl, hb⟩; have HB2 := Aside0.mk (below_step (by first | exact HB1.out | exact below_drew HB1.out | exact pw_below_drewN HB1.out _ | exact below_alloc HB1.out _) hb); clear hb; clear HT1)
    go_wp2_with (go_at_call 11; refine (HR.out _).mono ?_; rintro e w3 ⟨rfl, hb⟩; have HB3 := Aside0.mk (below_step (by first | exact HB2.out | exact below_drew HB2.out | exact pw_below_drewN HB2.out _ | exact below_alloc HB2.out _) hb); clear hb; clear HR)
    go_wp2_with (go_at_call 7; refine (HP1.out _ (by first | exact HB3.out | exact below_drew HB3.out | exact pw_below_drewN HB3.out _ | exact below_alloc HB3.out _)).mono ?_; rintro e w4 ⟨rfl, hb⟩; have HB4 := Aside0.mk (below_step (by first | exact HB3.out | exact below_drew HB3.out | exact pw_below_drewN HB3.out _ | exact below_alloc HB3.out _) hb); clear hb; clear HP1)
    go_ret
    exact ⟨by simp, HB4.out⟩

set_option maxHeartbeats 8000000 in
set_option maxRecDepth 100000 in
theorem sums_any (a b : Int) (ha0 : 0 ≤ a) (ha1 : a ≤ 65535) (hb0 : 0 ≤ b) (hb1 : b ≤ 65535) (w : World) (h : LaidAll w) : Calls Tryd.prog 5 #[.int .u16 a, .int .u16 b] w fun e w' => e = .returned (.bool true) ∧ Below w.heap.size w w' := by
  replace h := Aside0.mk h
  have HAW : Aside0 (∀ w', Below w.heap.size w w' → Calls Tryd.prog 6 #[] w' fun e w'' => e = .returned (.bool true) ∧ Below w'.heap.size w' w'') := ⟨fun w' hb => awake_any w' (h.out.below hb)⟩
  have q1 : parseS [49, 104] = some 3600000 := by rfl
  have HP1 : Aside0 (∀ w', Below w.heap.size w w' → Calls Tryd.prog 7 #[.string ⟨#[49, 104]⟩] w' fun e w'' => e = .returned (.tuple #[.int .i64 3600000, .nilIface]) ∧ Below w'.heap.size w' w'') := ⟨fun w' hb => by
    have h := parse_any [49, 104] (by decide) w' (h.out.2.1.below hb)
    rw [q1] at h
    exact h⟩
  obtain ⟨u, hu⟩ : ∃ u, u = a * 3600000 := ⟨_, rfl⟩
  have hu0 : 0 ≤ u ∧ u ≤ 235926000000 := by omega
  have z1 : IntKind.i64.wrap (a * 3600000) = u := by rw [← hu]; exact IntWalk.i64_in _ (by omega)
  have z2 : IntKind.i64.wrap a = a := IntWalk.i64_in _ (by omega)
  have z3 : IntKind.i64.wrap b = b := IntWalk.i64_in _ (by omega)
  by_cases hz : a = 0
  · subst hz
    have hu2 : u = 0 := by omega
    subst hu2
    have q2 : textS 0 = some [48, 115] := by rfl
    have q3 : parseS [48, 115, 49, 109] = none := by rfl
    have HT1 : Aside0 (∀ w', Below w.heap.size w w' → Calls Tryd.prog 10 #[.int .i64 0] w' fun e w'' => e = .returned (.tuple #[.string ⟨#[48, 115]⟩, .nilIface]) ∧ Below w'.heap.size w' w'') := ⟨fun w' hb => by
      have h := text_any 0 (by decide) (by decide) w' (h.out.2.1.below hb) (h.out.2.2.below hb)
      rw [q2] at h
      exact h⟩
    have HP2 : Aside0 (∀ w', Below w.heap.size w w' → Calls Tryd.prog 7 #[.string ⟨#[48, 115, 49, 109]⟩] w' fun e w'' => e = .returned (.tuple #[.int .i64 0, .iface 38 (.int .i64 13)]) ∧ Below w'.heap.size w' w'') := ⟨fun w' hb => by
      have h := parse_any [48, 115, 49, 109] (by decide) w' (h.out.2.1.below hb)
      rw [q3] at h
      exact h⟩
    clear q1 q2 q3 z1 hu0 hu
    go_enter Tryd.func5, Tryd.ntmps5
    go_wp2_with (go_at_call 6; refine (HAW.out _ (by first | exact Below.refl _ _ | exact below_drew (Below.refl _ _) | exact pw_below_drewN (Below.refl _ _) _)).mono ?_; rintro e w1 ⟨rfl, hb⟩; have HB1 := Aside0.mk (below_step (by first | exact Below.refl _ _ | exact below_drew (Below.refl _ _) | exact pw_below_drewN (Below.refl _ _) _) hb); clear hb; clear HAW)
    go_wp2_with (go_at_call 7; refine (HP1.out _ (by first | exact HB1.out | exact below_drew HB1.out | exact pw_below_drewN HB1.out _ | exact below_alloc HB1.out _)).mono ?_; rintro e w2 ⟨rfl, hb⟩; have HB2 := Aside0.mk (below_step (by first | exact HB1.out | exact below_drew HB1.out | exact pw_below_drewN HB1.out _ | exact below_alloc HB1.out _) hb); clear hb; clear HP1)
    go_wp2_with (go_at_call 10; refine (HT1.out _ (by first | exact HB2.out | exact below_drew HB2.out | exact pw_below_drewN HB2.out _ | exact below_alloc HB2.out _)).mono ?_; rintro e w3 ⟨rfl, hb⟩; have HB3 := Aside0.mk (below_step (by first | exact HB2.out | exact below_drew HB2.out | exact pw_below_drewN HB2.out _ | exact below_alloc HB2.out _) hb); clear hb; clear HT1)
    go_wp2_with (go_at_call 7; refine (HP2.out _ (by first | exact HB3.out | exact below_drew HB3.out | exact pw_below_drewN HB3.out _ | exact below_alloc HB3.out _)).mono ?_; rintro e w4 ⟨rfl, hb⟩; have HB4 := Aside0.mk (below_step (by first | exact HB3.out | exact below_drew HB3.out | exact pw_below_drewN HB3.out _ | exact below_alloc HB3.out _) hb); clear hb; clear HP2)
    go_ret
    exact ⟨rfl, HB4.out⟩
  obtain ⟨m, hm, hm2, hm3, hml⟩ := sums_plain a u hu (by omega) ha1
  obtain ⟨t, ht, ht2⟩ : ∃ t, textS b = some t ∧ parseS t = some b := by
    have h3 := parse_text b hb0 (by omega)
    cases h4 : textS b with
    | none => rw [h4] at h3; cases h3
    | some t => rw [h4] at h3; exact ⟨t, rfl, h3⟩
  have hsm := bs_size m
  have hst := bs_size t
  have htl := parseS_len t b ht2
  have z4 : IntKind.i64.wrap (u + 60000) = u + 60000 := IntWalk.i64_in _ (by omega)
  have HT1 : Aside0 (∀ w', Below w.heap.size w w' → Calls Tryd.prog 10 #[.int .i64 u] w' fun e w'' => e = .returned (.tuple #[.string (bs m), .nilIface]) ∧ Below w'.heap.size w' w'') := ⟨fun w' hb => by
    have h := text_any u (by omega) (by omega) w' (h.out.2.1.below hb) (h.out.2.2.below hb)
    rw [hm] at h
    exact h⟩
  have HP2 : Aside0 (∀ w', Below w.heap.size w w' → Calls Tryd.prog 7 #[.string (bs m ++ ⟨#[49, 109]⟩)] w' fun e w'' => e = .returned (.tuple #[.int .i64 (u + 60000), .nilIface]) ∧ Below w'.heap.size w' w'') := ⟨fun w' hb => by
    have h := parse_any (m ++ [49, 109]) (by simp only [List.length_append, List.length_cons, List.length_nil]; omega) w' (h.out.2.1.below hb)
    rw [hm3, ← bs_app] at h
    exact h⟩
  have HP3 : Aside0 (∀ w', Below w.heap.size w w' → Calls Tryd.prog 7 #[.string (bs m)] w' fun e w'' => e = .returned (.tuple #[.int .i64 u, .nilIface]) ∧ Below w'.heap.size w' w'') := ⟨fun w' hb => by
    have h := parse_any m (by omega) w' (h.out.2.1.below hb)
    rw [hm2] at h
    exact h⟩
  have HT2 : Aside0 (∀ w', Below w.heap.size w w' → Calls Tryd.prog 10 #[.int .i64 b] w' fun e w'' => e = .returned (.tuple #[.string (bs t), .nilIface]) ∧ Below w'.heap.size w' w'') := ⟨fun w' hb => by
    have h := text_any b (by omega) (by omega) w' (h.out.2.1.below hb) (h.out.2.2.below hb)
    rw [ht] at h
    exact h⟩
  have HP4 : Aside0 (∀ w', Below w.heap.size w w' → Calls Tryd.prog 7 #[.string (bs t)] w' fun e w'' => e = .returned (.tuple #[.int .i64 b, .nilIface]) ∧ Below w'.heap.size w' w'') := ⟨fun w' hb => by
    have h := parse_any t (by omega) w' (h.out.2.1.below hb)
    rw [ht2] at h
    exact h⟩
  have hz2 : (a == 0) = false := by simp [hz]
  clear q1 hm hm2 hm3 ht ht2 hu hu0 htl
  go_enter Tryd.func5, Tryd.ntmps5
  go_wp2_with (go_at_call 6; refine (HAW.out _ (by first | exact Below.refl _ _ | exact below_drew (Below.refl _ _) | exact pw_below_drewN (Below.refl _ _) _)).mono ?_; rintro e w1 ⟨rfl, hb⟩; have HB1 := Aside0.mk (below_step (by first | exact Below.refl _ _ | exact below_drew (Below.refl _ _) | exact pw_below_drewN (Below.refl _ _) _) hb); clear hb; clear HAW)
  go_wp2_with (go_at_call 7; refine (HP1.out _ (by first | exact HB1.out | exact below_drew HB1.out | exact pw_below_drewN HB1.out _ | exact below_alloc HB1.out _)).mono ?_; rintro e w2 ⟨rfl, hb⟩; have HB2 := Aside0.mk (below_step (by first | exact HB1.out | exact below_drew HB1.out | exact pw_below_drewN HB1.out _ | exact below_alloc HB1.out _) hb); clear hb; clear HP1)
  go_wp2_with (go_at_call 10; refine (HT1.out _ (by first | exact HB2.out | exact below_drew HB2.out | exact pw_below_drewN HB2.out _ | exact below_alloc HB2.out _)).mono ?_; rintro e w3 ⟨rfl, hb⟩; have HB3 := Aside0.mk (below_step (by first | exact HB2.out | exact below_drew HB2.out | exact pw_below_drewN HB2.out _ | exact below_alloc HB2.out _) hb); clear hb; clear HT1)
  go_wp2_with (go_at_call 7; refine (HP2.out _ (by first | exact HB3.out | exact below_drew HB3.out | exact pw_below_drewN HB3.out _ | exact below_alloc HB3.out _)).mono ?_; rintro e w4 ⟨rfl, hb⟩; have HB4 := Aside0.mk (below_step (by first | exact HB3.out | exact below_drew HB3.out | exact pw_below_drewN HB3.out _ | exact below_alloc HB3.out _) hb); clear hb; clear HP2)
  go_wp2_with (go_at_call 7; refine (HP3.out _ (by first | exact HB4.out | exact below_drew HB4.out | exact pw_below_drewN HB4.out _ | exact below_alloc HB4.out _)).mono ?_; rintro e w5 ⟨rfl, hb⟩; have HB5 := Aside0.mk (below_step (by first | exact HB4.out | exact below_drew HB4.out | exact pw_below_drewN HB4.out _ | exact below_alloc HB4.out _) hb); clear hb; clear HP3)
  go_wp2_with (go_at_call 10; refine (HT2.out _ (by first | exact HB5.out | exact below_drew HB5.out | exact pw_below_drewN HB5.out _ | exact below_alloc HB5.out _)).mono ?_; rintro e w6 ⟨rfl, hb⟩; have HB6 := Aside0.mk (below_step (by first | exact HB5.out | exact below_drew HB5.out | exact pw_below_drewN HB5.out _ | exact below_alloc HB5.out _) hb); clear hb; clear HT2)
  go_wp2_with (go_at_call 7; refine (HP4.out _ (by first | exact HB6.out | exact below_drew HB6.out | exact pw_below_drewN HB6.out _ | exact below_alloc HB6.out _)).mono ?_; rintro e w7 ⟨rfl, hb⟩; have HB7 := Aside0.mk (below_step (by first | exact HB6.out | exact below_drew HB6.out | exact pw_below_drewN HB6.out _ | exact below_alloc HB6.out _) hb); clear hb; clear HP4)
  go_ret
  exact ⟨by simp, HB7.out⟩
end Go.Proofs.YtpjbllkifjhknaaDoor.Pr
