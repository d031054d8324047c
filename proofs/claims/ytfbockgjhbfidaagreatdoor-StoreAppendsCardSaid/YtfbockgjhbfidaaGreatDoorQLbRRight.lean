/- Texts of this session, cut down to what one claim needs and joined: LbRRight. -/
import Derived.Test.YtfbockgjhbfidaaGreatDoorQLbRight
import Derived.Test.YtfbockgjhbfidaaGreatDoorQLbText
set_option linter.unusedVariables false
set_option linter.unusedSimpArgs false
namespace Go.Proofs.YtfbockgjhbfidaaGreatDoor.Pr
open Go.RowKit Go.Proofs.YtfbockgjhbfidaaGreatDoorW.PrintWords Go.Proofs.YtfbockgjhbfidaaGreatDoorW.PrintLast Go.Proofs.YtfbockgjhbfidaaGreatDoorW.PrintMore

theorem str_leq (t : TypeId) (a b : ByteArray) : binOp .leq t (.string a) (.string b) = pure (.bool !(Op.bytesLess b.toList a.toList)) := by
 have h : binOp .leq t (.string a) (.string b) = pure (.bool (Op.bytesLess a.toList b.toList || a.toList == b.toList)) := by simp [binOp, Op.stringOp]
 have h2 : binOp .gtr t (.string a) (.string b) = pure (.bool !(Op.bytesLess a.toList b.toList || a.toList == b.toList)) := by simp [binOp, Op.stringOp]
 rw [str_gtr] at h2
 have h3 : ∀ p q : Bool, (pure (Value.bool p) : Sem Value) = pure (Value.bool q) → p = q := fun p q e => by
  have e2 := congrFun (congrArg (fun m => Sem.run Tryz.prog m) e) default
  simp at e2
  exact e2
 rw [h, h3 _ _ h2, Bool.not_not]
attribute [local go_sem] str_leq
def smallR (l : List S44) : Prop := l.length ≤ 1000 ∧ ∀ x ∈ l, x.f0.size ≤ 1000000 ∧ x.f1.size ≤ 1000000
instance (l : List S44) : Decidable (smallR l) := by unfold smallR; infer_instance

set_option maxHeartbeats 8000000 in
set_option maxRecDepth 100000 in
theorem rright_any (A : Option Addr) (cap : Nat) (l : List S44) (w : World) (hr : Kd.C k44 w A l.length l) (hc : l.length ≤ cap) (hb : smallR l) :
  Calls Tryz.prog 35 #[.slice A l.length cap] w fun e w' => e = .returned (.bool (rightB l)) ∧ Below w.heap.size w w' := by
 have HR0 := Aside0.mk hr
 have hb1 := hb.1
 have HS := Aside0.mk hb.2
 clear hr hb
 go_enter Tryz.func35, Tryz.ntmps35
 go_wp2
 go_loopw [3] (fun v3 w' => ∃ (i : Nat), v3 = .int .i64 i ∧ i ≤ l.length ∧ Aside0 (okL (prevL l i) (l.drop i) = okL none l) ∧ Aside0 (Below w.heap.size w w')) (fun v3 _ => l.length - (intOf v3).toNat)
 case atStart => exact ⟨0, rfl, Nat.zero_le _, ⟨rfl⟩, ⟨Below.refl _ _⟩⟩
 case round =>
  obtain ⟨i, rfl, hil, HI, HB1⟩ := hrel
  by_cases hlt : i < l.length
  ·have hC := Kd.C_below HR0.out HB1.out
   obtain ⟨ad, eA, y0, y1⟩ := at_T44 hC (i : Nat) (by omega) (by omega)
   cases eA
   obtain ⟨x, hx⟩ : ∃ x, x = rd_T44 l (i : Nat) := ⟨_, rfl⟩
   have hxm : x ∈ l := by rw [hx]; simp [rd_T44, hlt]
   have hd : l.drop i = x :: l.drop (i + 1) := by
    rw [List.drop_eq_getElem_cons hlt, hx]; simp [rd_T44, hlt]
   have hI := HI.out
   rw [hd] at hI
   rw [← hx] at y0 y1
   simp only [Int.toNat_natCast] at y0 y1
   obtain ⟨s0, s1⟩ := HS.out x hxm
   have hnm : soundingsref01_IsName.f 1000001 x.f0 = some (nameB x.f0.data.toList) := by
    have h := refName_some x.f0.data.toList (by rw [Array.length_toList]; exact s0) 1000001 (by rw [Array.length_toList]; exact Nat.lt_succ_of_le s0)
    have e : bs x.f0.data.toList = x.f0 := by unfold bs; simp
    rw [e] at h
    exact h
   have hvl : soundingsref01_IsValue.f 1000010 x.f1 = some (valueB x.f1) := by
    have h := isValue_some x.f1.data.toList (by rw [Array.length_toList]; exact s1) 1000010 (by rw [Array.length_toList]; exact Nat.add_le_add_right s1 10)
    have e : bs x.f1.data.toList = x.f1 := by unfold bs; simp
    rw [e] at h
    exact h
   have HN : Aside0 (∀ w', Calls Tryz.prog 46 #[.string x.f0] w' fun e w'' => e = .returned (.bool (nameB x.f0.data.toList)) ∧ Drawn0 w' w'') := ⟨fun w' => soundingsref01_IsName.calls 1000001 x.f0 _ w' hnm⟩
   have HV : Aside0 (∀ w', Calls Tryz.prog 47 #[.string x.f1] w' fun e w'' => e = .returned (.bool (valueB x.f1)) ∧ Drawn0 w' w'') := ⟨fun w' => soundingsref01_IsValue.calls 1000010 x.f1 _ w' hvl⟩
   have hmb : mayB x = (nameB x.f0.data.toList && valueB x.f1) := rfl
   generalize nameB x.f0.data.toList = b1 at *
   generalize valueB x.f1 = b2 at *
   have g0 : (0 : Int) ≤ (i : Int) := by omega
   have g1 : (i : Int) < (l.length : Int) := by omega
   clear hnm hvl s0 s1
   cases b1 with
   | false =>
    have HG : Aside0 (rightB l = false) := ⟨by unfold rightB; rw [← hI]; unfold okL; rw [hmb]; rfl⟩
    clear hI hd hx hxm hC hmb HI
    go_wp2_with (fail)
    refine start_ (n := 42) (S := fun w' => w'.cell? (ad.add (i * 2)) = some (.string x.f0) ∧ w'.cell? ⟨(ad.add (i * 2)).block, (ad.add (i * 2)).off + 1, none⟩ = some (.string x.f1)) (ds := []) (bz 42 0) (by kernel_rfl) rfl rfl ⟨y0, y1⟩ (fun hHeld => ?_)
    refine pq 0 10 (bz 42 1) (by kernel_rfl) ?_
    refine pq 1 11 (bz 42 3) (by kernel_rfl) ?_
    refine pq 2 12 (bz 42 7) (by kernel_rfl) ?_
    refine pq 3 13 (bz 42 15) (by kernel_rfl) ?_
    refine tq 4 14 (bz 42 31) (by kernel_rfl) rfl rfl (by rintro w' ⟨s0, s1⟩; go_simp; with_reducible rfl) hHeld ?_
    refine one_ (i := 5) (N := some 15) (bz 42 63) rfl rfl (by kernel_rfl) (by decide) (fun K hK => ?_)
    refine goes_ Tryz.func46 (by kernel_rfl) rfl #[.string x.f0] (by rfl) rfl rfl (by (try simp only [List.map_toArray, List.map_cons, List.map_nil]); first | done | rfl) ?_
    refine (HN.out _).mono ?_
    rintro e w1 ⟨rfl, m1, rfl⟩
    refine ⟨_, rfl, ?_⟩
    refine hK.out _ _ ⟨y0, y1⟩ (fun hHeld => ?_)
    clear hK K
    refine norm_ (show Act.put _ (some 15) _ = _ by simp only [pu, s0, s1, i64_w, i32_w]; rfl) ?_
    refine pq 6 16 (bz 42 127) (by kernel_rfl) ?_
    refine pq 7 17 (bz 42 255) (by kernel_rfl) ?_
    refine pn 8 18 (bz 42 511) (by kernel_rfl) ?_
    refine pn 9 19 (bz 42 1023) (by kernel_rfl) ?_
    refine pn 10 20 (bz 42 2047) (by kernel_rfl) ?_
    refine pn 11 21 (bz 42 4095) (by kernel_rfl) ?_
    refine pn 12 22 (bz 42 8191) (by kernel_rfl) ?_
    refine pn 13 23 (bz 42 16383) (by kernel_rfl) ?_
    refine pn 14 24 (bz 42 32767) (by kernel_rfl) ?_
    refine pq 15 25 (bz 42 65535) (by kernel_rfl) ?_
    refine pq 16 26 (bz 42 131071) (by kernel_rfl) ?_
    refine pn 17 27 (bz 42 262143) (by kernel_rfl) ?_
    refine pn 18 28 (bz 42 524287) (by kernel_rfl) ?_
    refine pn 19 29 (bz 42 1048575) (by kernel_rfl) ?_
    refine pn 20 30 (bz 42 2097151) (by kernel_rfl) ?_
    refine pn 21 31 (bz 42 4194303) (by kernel_rfl) ?_
    refine pn 22 32 (bz 42 8388607) (by kernel_rfl) ?_
    refine pq 23 33 (bz 42 16777215) (by kernel_rfl) ?_
    refine pq 24 34 (bz 42 33554431) (by kernel_rfl) ?_
    refine pn 25 35 (bz 42 67108863) (by kernel_rfl) ?_
    refine pn 26 36 (bz 42 134217727) (by kernel_rfl) ?_
    refine pn 27 37 (bz 42 268435455) (by kernel_rfl) ?_
    refine pn 28 38 (bz 42 536870911) (by kernel_rfl) ?_
    refine pn 29 39 (bz 42 1073741823) (by kernel_rfl) ?_
    refine pn 30 40 (bz 42 2147483647) (by kernel_rfl) ?_
    refine pn 31 41 (bz 42 4294967295) (by kernel_rfl) ?_
    refine pn 32 42 (bz 42 8589934591) (by kernel_rfl) ?_
    refine pn 33 43 (bz 42 17179869183) (by kernel_rfl) ?_
    refine pn 34 44 (bz 42 34359738367) (by kernel_rfl) ?_
    refine pn 35 45 (bz 42 68719476735) (by kernel_rfl) ?_
    refine pn 36 46 (bz 42 137438953471) (by kernel_rfl) ?_
    refine pn 37 47 (bz 42 274877906943) (by kernel_rfl) ?_
    refine pn 38 48 (bz 42 549755813887) (by kernel_rfl) ?_
    refine pn 39 49 (bz 42 1099511627775) (by kernel_rfl) ?_
    refine pn 40 50 (bz 42 2199023255551) (by kernel_rfl) ?_
    refine pq 41 51 (bz 42 4398046511103) (by kernel_rfl) ?_
    refine done_ (by kernel_rfl) ?_
    go_wp2
    go_ret
    exact ⟨by rw [HG.out]; rfl, by repeat (first | exact HB1.out | apply pw_below_drewN | apply below_drew)⟩
   | true =>
    cases b2 with
    | false =>
     have HG : Aside0 (rightB l = false) := ⟨by unfold rightB; rw [← hI]; unfold okL; rw [hmb]; rfl⟩
     clear hI hd hx hxm hC hmb HI
     go_wp2_with (fail)
     refine start_ (n := 42) (S := fun w' => w'.cell? (ad.add (i * 2)) = some (.string x.f0) ∧ w'.cell? ⟨(ad.add (i * 2)).block, (ad.add (i * 2)).off + 1, none⟩ = some (.string x.f1)) (ds := []) (bz 42 0) (by kernel_rfl) rfl rfl ⟨y0, y1⟩ (fun hHeld => ?_)
     refine pq 0 10 (bz 42 1) (by kernel_rfl) ?_
     refine pq 1 11 (bz 42 3) (by kernel_rfl) ?_
     refine pq 2 12 (bz 42 7) (by kernel_rfl) ?_
     refine pq 3 13 (bz 42 15) (by kernel_rfl) ?_
     refine tq 4 14 (bz 42 31) (by kernel_rfl) rfl rfl (by rintro w' ⟨s0, s1⟩; go_simp; with_reducible rfl) hHeld ?_
     refine one_ (i := 5) (N := some 15) (bz 42 63) rfl rfl (by kernel_rfl) (by decide) (fun K hK => ?_)
     refine goes_ Tryz.func46 (by kernel_rfl) rfl #[.string x.f0] (by rfl) rfl rfl (by (try simp only [List.map_toArray, List.map_cons, List.map_nil]); first | done | rfl) ?_
     refine (HN.out _).mono ?_
     rintro e w1 ⟨rfl, m1, rfl⟩
     refine ⟨_, rfl, ?_⟩
     refine hK.out _ _ ⟨y0, y1⟩ (fun hHeld => ?_)
     clear hK K
     refine norm_ (show Act.put _ (some 15) _ = _ by simp only [pu, s0, s1, i64_w, i32_w]; rfl) ?_
     refine pq 6 16 (bz 42 127) (by kernel_rfl) ?_
     refine pq 7 17 (bz 42 255) (by kernel_rfl) ?_
     refine pq 8 18 (bz 42 511) (by kernel_rfl) ?_
     refine pq 9 19 (bz 42 1023) (by kernel_rfl) ?_
     refine pq 10 20 (bz 42 2047) (by kernel_rfl) ?_
     refine pq 11 21 (bz 42 4095) (by kernel_rfl) ?_
     refine tq 12 22 (bz 42 8191) (by kernel_rfl) rfl rfl (by rintro w' ⟨s0, s1⟩; go_simp; with_reducible rfl) hHeld ?_
     refine one_ (i := 13) (N := some 23) (bz 42 16383) rfl rfl (by kernel_rfl) (by decide) (fun K hK => ?_)
     refine goes_ Tryz.func47 (by kernel_rfl) rfl #[.string x.f1] (by rfl) rfl rfl (by (try simp only [List.map_toArray, List.map_cons, List.map_nil]); first | done | rfl) ?_
     refine (HV.out _).mono ?_
     rintro e w2 ⟨rfl, m2, rfl⟩
     refine ⟨_, rfl, ?_⟩
     refine hK.out _ _ ⟨y0, y1⟩ (fun hHeld => ?_)
     clear hK K
     refine norm_ (show Act.put _ (some 23) _ = _ by simp only [pu, s0, s1, i64_w, i32_w]; rfl) ?_
     refine pq 14 24 (bz 42 32767) (by kernel_rfl) ?_
     refine pq 15 25 (bz 42 65535) (by kernel_rfl) ?_
     refine pq 16 26 (bz 42 131071) (by kernel_rfl) ?_
     refine pn 17 27 (bz 42 262143) (by kernel_rfl) ?_
     refine pn 18 28 (bz 42 524287) (by kernel_rfl) ?_
     refine pn 19 29 (bz 42 1048575) (by kernel_rfl) ?_
     refine pn 20 30 (bz 42 2097151) (by kernel_rfl) ?_
     refine pn 21 31 (bz 42 4194303) (by kernel_rfl) ?_
     refine pn 22 32 (bz 42 8388607) (by kernel_rfl) ?_
     refine pq 23 33 (bz 42 16777215) (by kernel_rfl) ?_
     refine pq 24 34 (bz 42 33554431) (by kernel_rfl) ?_
     refine pn 25 35 (bz 42 67108863) (by kernel_rfl) ?_
     refine pn 26 36 (bz 42 134217727) (by kernel_rfl) ?_
     refine pn 27 37 (bz 42 268435455) (by kernel_rfl) ?_
     refine pn 28 38 (bz 42 536870911) (by kernel_rfl) ?_
     refine pn 29 39 (bz 42 1073741823) (by kernel_rfl) ?_
     refine pn 30 40 (bz 42 2147483647) (by kernel_rfl) ?_
     refine pn 31 41 (bz 42 4294967295) (by kernel_rfl) ?_
     refine pn 32 42 (bz 42 8589934591) (by kernel_rfl) ?_
     refine pn 33 43 (bz 42 17179869183) (by kernel_rfl) ?_
     refine pn 34 44 (bz 42 34359738367) (by kernel_rfl) ?_
     refine pn 35 45 (bz 42 68719476735) (by kernel_rfl) ?_
     refine pn 36 46 (bz 42 137438953471) (by kernel_rfl) ?_
     refine pn 37 47 (bz 42 274877906943) (by kernel_rfl) ?_
     refine pn 38 48 (bz 42 549755813887) (by kernel_rfl) ?_
     refine pn 39 49 (bz 42 1099511627775) (by kernel_rfl) ?_
     refine pn 40 50 (bz 42 2199023255551) (by kernel_rfl) ?_
     refine pq 41 51 (bz 42 4398046511103) (by kernel_rfl) ?_
     refine done_ (by kernel_rfl) ?_
     go_wp2
     go_ret
     exact ⟨by rw [HG.out]; rfl, by repeat (first | exact HB1.out | apply pw_below_drewN | apply below_drew)⟩
    | true =>
     cases he : (x.f1.toList == []) with
     | true =>
      have HG : Aside0 (rightB l = false) := ⟨by unfold rightB; rw [← hI]; unfold okL; rw [hmb, he]; rfl⟩
      clear hI hd hx hxm hC hmb HI
      go_wp2_with (fail)
      refine start_ (n := 42) (S := fun w' => w'.cell? (ad.add (i * 2)) = some (.string x.f0) ∧ w'.cell? ⟨(ad.add (i * 2)).block, (ad.add (i * 2)).off + 1, none⟩ = some (.string x.f1)) (ds := []) (bz 42 0) (by kernel_rfl) rfl rfl ⟨y0, y1⟩ (fun hHeld => ?_)
      refine pq 0 10 (bz 42 1) (by kernel_rfl) ?_
      refine pq 1 11 (bz 42 3) (by kernel_rfl) ?_
      refine pq 2 12 (bz 42 7) (by kernel_rfl) ?_
      refine pq 3 13 (bz 42 15) (by kernel_rfl) ?_
      refine tq 4 14 (bz 42 31) (by kernel_rfl) rfl rfl (by rintro w' ⟨s0, s1⟩; go_simp; with_reducible rfl) hHeld ?_
      refine one_ (i := 5) (N := some 15) (bz 42 63) rfl rfl (by kernel_rfl) (by decide) (fun K hK => ?_)
      refine goes_ Tryz.func46 (by kernel_rfl) rfl #[.string x.f0] (by rfl) rfl rfl (by (try simp only [List.map_toArray, List.map_cons, List.map_nil]); first | done | rfl) ?_
      refine (HN.out _).mono ?_
      rintro e w1 ⟨rfl, m1, rfl⟩
      refine ⟨_, rfl, ?_⟩
      refine hK.out _ _ ⟨y0, y1⟩ (fun hHeld => ?_)
      clear hK K
      refine norm_ (show Act.put _ (some 15) _ = _ by simp only [pu, s0, s1, i64_w, i32_w]; rfl) ?_
      refine pq 6 16 (bz 42 127) (by kernel_rfl) ?_
      refine pq 7 17 (bz 42 255) (by kernel_rfl) ?_
      refine pq 8 18 (bz 42 511) (by kernel_rfl) ?_
      refine pq 9 19 (bz 42 1023) (by kernel_rfl) ?_
      refine pq 10 20 (bz 42 2047) (by kernel_rfl) ?_
      refine pq 11 21 (bz 42 4095) (by kernel_rfl) ?_
      refine tq 12 22 (bz 42 8191) (by kernel_rfl) rfl rfl (by rintro w' ⟨s0, s1⟩; go_simp; with_reducible rfl) hHeld ?_
      refine one_ (i := 13) (N := some 23) (bz 42 16383) rfl rfl (by kernel_rfl) (by decide) (fun K hK => ?_)
      refine goes_ Tryz.func47 (by kernel_rfl) rfl #[.string x.f1] (by rfl) rfl rfl (by (try simp only [List.map_toArray, List.map_cons, List.map_nil]); first | done | rfl) ?_
      refine (HV.out _).mono ?_
      rintro e w2 ⟨rfl, m2, rfl⟩
      refine ⟨_, rfl, ?_⟩
      refine hK.out _ _ ⟨y0, y1⟩ (fun hHeld => ?_)
      clear hK K
      refine norm_ (show Act.put _ (some 23) _ = _ by simp only [pu, s0, s1, i64_w, i32_w]; rfl) ?_
      refine pq 14 24 (bz 42 32767) (by kernel_rfl) ?_
      refine pq 15 25 (bz 42 65535) (by kernel_rfl) ?_
      refine pq 16 26 (bz 42 131071) (by kernel_rfl) ?_
      refine pq 17 27 (bz 42 262143) (by kernel_rfl) ?_
      refine pq 18 28 (bz 42 524287) (by kernel_rfl) ?_
      refine pq 19 29 (bz 42 1048575) (by kernel_rfl) ?_
      refine pq 20 30 (bz 42 2097151) (by kernel_rfl) ?_
      refine tq 21 31 (bz 42 4194303) (by kernel_rfl) rfl rfl (by rintro w' ⟨s0, s1⟩; go_simp; with_reducible rfl) hHeld ?_
      refine pq 22 32 (bz 42 8388607) (by kernel_rfl) ?_
      refine pq 23 33 (bz 42 16777215) (by kernel_rfl) ?_
      refine pq 24 34 (bz 42 33554431) (by kernel_rfl) ?_
      refine pn 25 35 (bz 42 67108863) (by kernel_rfl) ?_
      refine pn 26 36 (bz 42 134217727) (by kernel_rfl) ?_
      refine pn 27 37 (bz 42 268435455) (by kernel_rfl) ?_
      refine pn 28 38 (bz 42 536870911) (by kernel_rfl) ?_
      refine pn 29 39 (bz 42 1073741823) (by kernel_rfl) ?_
      refine pn 30 40 (bz 42 2147483647) (by kernel_rfl) ?_
      refine pn 31 41 (bz 42 4294967295) (by kernel_rfl) ?_
      refine pn 32 42 (bz 42 8589934591) (by kernel_rfl) ?_
      refine pn 33 43 (bz 42 17179869183) (by kernel_rfl) ?_
      refine pn 34 44 (bz 42 34359738367) (by kernel_rfl) ?_
      refine pn 35 45 (bz 42 68719476735) (by kernel_rfl) ?_
      refine pn 36 46 (bz 42 137438953471) (by kernel_rfl) ?_
      refine pn 37 47 (bz 42 274877906943) (by kernel_rfl) ?_
      refine pn 38 48 (bz 42 549755813887) (by kernel_rfl) ?_
      refine pn 39 49 (bz 42 1099511627775) (by kernel_rfl) ?_
      refine pn 40 50 (bz 42 2199023255551) (by kernel_rfl) ?_
      refine pq 41 51 (bz 42 4398046511103) (by kernel_rfl) ?_
      refine done_ (by kernel_rfl) ?_
      go_wp2
      go_ret
      exact ⟨by rw [HG.out]; rfl, by repeat (first | exact HB1.out | apply pw_below_drewN | apply below_drew)⟩
     | false =>
      cases i with
      | zero =>
       have hI2 : (mayB x && !(x.f1.toList == []) && true && okL (some x.f0) (l.drop 1)) = okL none l := hI
       rw [hmb, he] at hI2
       have HG : Aside0 (okL (some x.f0) (l.drop 1) = okL none l) := ⟨by simpa using hI2⟩
       clear hI2
       have HX2 : Aside0 (prevL l 1 = some x.f0) := ⟨by rw [hx]; rfl⟩
       have e0 : ad.add (0 * 2) = ad := by cases ad; simp [Addr.add]
       rw [e0] at y0 y1
       clear hI hd hx hxm hC hmb HI e0
       go_wp2_with (fail)
       refine start_ (n := 42) (S := fun w' => w'.cell? ad = some (.string x.f0) ∧ w'.cell? ⟨ad.block, ad.off + 1, none⟩ = some (.string x.f1)) (ds := []) (bz 42 0) (by kernel_rfl) rfl rfl ⟨y0, y1⟩ (fun hHeld => ?_)
       refine pq 0 10 (bz 42 1) (by kernel_rfl) ?_
       refine pq 1 11 (bz 42 3) (by kernel_rfl) ?_
       refine pq 2 12 (bz 42 7) (by kernel_rfl) ?_
       refine pq 3 13 (bz 42 15) (by kernel_rfl) ?_
       refine tq 4 14 (bz 42 31) (by kernel_rfl) rfl rfl (by rintro w' ⟨s0, s1⟩; go_simp; with_reducible rfl) hHeld ?_
       refine one_ (i := 5) (N := some 15) (bz 42 63) rfl rfl (by kernel_rfl) (by decide) (fun K hK => ?_)
       refine goes_ Tryz.func46 (by kernel_rfl) rfl #[.string x.f0] (by rfl) rfl rfl (by (try simp only [List.map_toArray, List.map_cons, List.map_nil]); first | done | rfl) ?_
       refine (HN.out _).mono ?_
       rintro e w1 ⟨rfl, m1, rfl⟩
       refine ⟨_, rfl, ?_⟩
       refine hK.out _ _ ⟨y0, y1⟩ (fun hHeld => ?_)
       clear hK K
       refine norm_ (show Act.put _ (some 15) _ = _ by simp only [pu, s0, s1, i64_w, i32_w]; rfl) ?_
       refine pq 6 16 (bz 42 127) (by kernel_rfl) ?_
       refine pq 7 17 (bz 42 255) (by kernel_rfl) ?_
       refine pq 8 18 (bz 42 511) (by kernel_rfl) ?_
       refine pq 9 19 (bz 42 1023) (by kernel_rfl) ?_
       refine pq 10 20 (bz 42 2047) (by kernel_rfl) ?_
       refine pq 11 21 (bz 42 4095) (by kernel_rfl) ?_
       refine tq 12 22 (bz 42 8191) (by kernel_rfl) rfl rfl (by rintro w' ⟨s0, s1⟩; go_simp; with_reducible rfl) hHeld ?_
       refine one_ (i := 13) (N := some 23) (bz 42 16383) rfl rfl (by kernel_rfl) (by decide) (fun K hK => ?_)
       refine goes_ Tryz.func47 (by kernel_rfl) rfl #[.string x.f1] (by rfl) rfl rfl (by (try simp only [List.map_toArray, List.map_cons, List.map_nil]); first | done | rfl) ?_
       refine (HV.out _).mono ?_
       rintro e w2 ⟨rfl, m2, rfl⟩
       refine ⟨_, rfl, ?_⟩
       refine hK.out _ _ ⟨y0, y1⟩ (fun hHeld => ?_)
       clear hK K
       refine norm_ (show Act.put _ (some 23) _ = _ by simp only [pu, s0, s1, i64_w, i32_w]; rfl) ?_
       refine pq 14 24 (bz 42 32767) (by kernel_rfl) ?_
       refine pq 15 25 (bz 42 65535) (by kernel_rfl) ?_
       refine pq 16 26 (bz 42 131071) (by kernel_rfl) ?_
       refine pq 17 27 (bz 42 262143) (by kernel_rfl) ?_
       refine pq 18 28 (bz 42 524287) (by kernel_rfl) ?_
       refine pq 19 29 (bz 42 1048575) (by kernel_rfl) ?_
       refine pq 20 30 (bz 42 2097151) (by kernel_rfl) ?_
       refine tq 21 31 (bz 42 4194303) (by kernel_rfl) rfl rfl (by rintro w' ⟨s0, s1⟩; go_simp; with_reducible rfl) hHeld ?_
       refine pq 22 32 (bz 42 8388607) (by kernel_rfl) ?_
       refine pq 23 33 (bz 42 16777215) (by kernel_rfl) ?_
       refine pq 24 34 (bz 42 33554431) (by kernel_rfl) ?_
       refine pq 25 35 (bz 42 67108863) (by kernel_rfl) ?_
       refine pq 26 36 (bz 42 134217727) (by kernel_rfl) ?_
       refine pq 27 37 (bz 42 268435455) (by kernel_rfl) ?_
       refine pn 28 38 (bz 42 536870911) (by kernel_rfl) ?_
       refine pn 29 39 (bz 42 1073741823) (by kernel_rfl) ?_
       refine pn 30 40 (bz 42 2147483647) (by kernel_rfl) ?_
       refine pn 31 41 (bz 42 4294967295) (by kernel_rfl) ?_
       refine pn 32 42 (bz 42 8589934591) (by kernel_rfl) ?_
       refine pn 33 43 (bz 42 17179869183) (by kernel_rfl) ?_
       refine pn 34 44 (bz 42 34359738367) (by kernel_rfl) ?_
       refine pn 35 45 (bz 42 68719476735) (by kernel_rfl) ?_
       refine pn 36 46 (bz 42 137438953471) (by kernel_rfl) ?_
       refine pn 37 47 (bz 42 274877906943) (by kernel_rfl) ?_
       refine pn 38 48 (bz 42 549755813887) (by kernel_rfl) ?_
       refine pn 39 49 (bz 42 1099511627775) (by kernel_rfl) ?_
       refine pq 40 50 (bz 42 2199023255551) (by kernel_rfl) ?_
       refine pq 41 51 (bz 42 4398046511103) (by kernel_rfl) ?_
       refine done_ (by kernel_rfl) ?_
       go_wp2
       go_roundw
       case rel => exact ⟨1, by go_num, by omega, ⟨by rw [HX2.out, HG.out]⟩, ⟨by repeat (first | exact HB1.out | apply pw_below_drewN | apply below_drew)⟩⟩
       case measure => simp [intOf]; omega
      | succ j =>
       obtain ⟨ad2, eA2, y2, y3⟩ := at_T44 hC (j : Nat) (by omega) (by omega)
       obtain rfl := Option.some.inj eA2
       obtain ⟨y, hy⟩ : ∃ y, y = rd_T44 l (j : Nat) := ⟨_, rfl⟩
       rw [← hy] at y2
       simp only [Int.toNat_natCast] at y2
       have z1 : IntKind.i64.wrap (((j : Int) + 1) - 1) = (j : Int) := by rw [Int.add_sub_cancel]; exact IntWalk.i64_in _ (by omega)
       have z2 : IntKind.i64.wrap (j : Int) = (j : Int) := IntWalk.i64_in _ (by omega)
       have hj0 : (0 : Int) ≤ (j : Int) := by omega
       have hj1 : (j : Int) < (l.length : Int) := by omega
       have hj2 : (0 : Int) < (j : Int) + 1 := by omega
       have hj3 : (0 : Int) ≤ (j : Int) + 1 := by omega
       have hj4 : (j : Int) + 1 < (l.length : Int) := by omega
       have HX2 : Aside0 (prevL l (j + 1 + 1) = some x.f0) := ⟨by rw [hx]; rfl⟩
       have hPY : prevL l (j + 1) = some y.f0 := by rw [hy]; rfl
       rw [hPY] at hI
       have hI2 : (mayB x && !(x.f1.toList == []) && Op.bytesLess y.f0.toList x.f0.toList && okL (some x.f0) (l.drop (j + 1 + 1))) = okL none l := hI
       rw [hmb, he] at hI2
       cases hq : Op.bytesLess y.f0.toList x.f0.toList with
       | false =>
        have HG : Aside0 (rightB l = false) := ⟨by unfold rightB; rw [← hI2, hq]; rfl⟩
        clear hI hI2 hd hx hxm hC hmb HI hy eA2 y3 hPY
        go_wp2_with (fail)
        refine start_ (n := 42) (S := fun w' => w'.cell? (ad.add ((j + 1) * 2)) = some (.string x.f0) ∧ w'.cell? ⟨(ad.add ((j + 1) * 2)).block, (ad.add ((j + 1) * 2)).off + 1, none⟩ = some (.string x.f1) ∧ w'.cell? (ad.add (j * 2)) = some (.string y.f0)) (ds := []) (bz 42 0) (by kernel_rfl) rfl rfl ⟨y0, y1, y2⟩ (fun hHeld => ?_)
        refine pq 0 10 (bz 42 1) (by kernel_rfl) ?_
        refine pq 1 11 (bz 42 3) (by kernel_rfl) ?_
        refine pq 2 12 (bz 42 7) (by kernel_rfl) ?_
        refine pq 3 13 (bz 42 15) (by kernel_rfl) ?_
        refine tq 4 14 (bz 42 31) (by kernel_rfl) rfl rfl (by rintro w' ⟨s0, s1, s2⟩; go_simp; with_reducible rfl) hHeld ?_
        refine one_ (i := 5) (N := some 15) (bz 42 63) rfl rfl (by kernel_rfl) (by decide) (fun K hK => ?_)
        refine goes_ Tryz.func46 (by kernel_rfl) rfl #[.string x.f0] (by rfl) rfl rfl (by (try simp only [List.map_toArray, List.map_cons, List.map_nil]); first | done | rfl) ?_
        refine (HN.out _).mono ?_
        rintro e w1 ⟨rfl, m1, rfl⟩
        refine ⟨_, rfl, ?_⟩
        refine hK.out _ _ ⟨y0, y1, y2⟩ (fun hHeld => ?_)
        clear hK K
        refine norm_ (show Act.put _ (some 15) _ = _ by simp only [pu, s0, s1, i64_w, i32_w]; rfl) ?_
        refine pq 6 16 (bz 42 127) (by kernel_rfl) ?_
        refine pq 7 17 (bz 42 255) (by kernel_rfl) ?_
        refine pq 8 18 (bz 42 511) (by kernel_rfl) ?_
        refine pq 9 19 (bz 42 1023) (by kernel_rfl) ?_
        refine pq 10 20 (bz 42 2047) (by kernel_rfl) ?_
        refine pq 11 21 (bz 42 4095) (by kernel_rfl) ?_
        refine tq 12 22 (bz 42 8191) (by kernel_rfl) rfl rfl (by rintro w' ⟨s0, s1, s2⟩; go_simp; with_reducible rfl) hHeld ?_
        refine one_ (i := 13) (N := some 23) (bz 42 16383) rfl rfl (by kernel_rfl) (by decide) (fun K hK => ?_)
        refine goes_ Tryz.func47 (by kernel_rfl) rfl #[.string x.f1] (by rfl) rfl rfl (by (try simp only [List.map_toArray, List.map_cons, List.map_nil]); first | done | rfl) ?_
        refine (HV.out _).mono ?_
        rintro e w2 ⟨rfl, m2, rfl⟩
        refine ⟨_, rfl, ?_⟩
        refine hK.out _ _ ⟨y0, y1, y2⟩ (fun hHeld => ?_)
        clear hK K
        refine norm_ (show Act.put _ (some 23) _ = _ by simp only [pu, s0, s1, i64_w, i32_w]; rfl) ?_
        refine pq 14 24 (bz 42 32767) (by kernel_rfl) ?_
        refine pq 15 25 (bz 42 65535) (by kernel_rfl) ?_
        refine pq 16 26 (bz 42 131071) (by kernel_rfl) ?_
        refine pq 17 27 (bz 42 262143) (by kernel_rfl) ?_
        refine pq 18 28 (bz 42 524287) (by kernel_rfl) ?_
        refine pq 19 29 (bz 42 1048575) (by kernel_rfl) ?_
        refine pq 20 30 (bz 42 2097151) (by kernel_rfl) ?_
        refine tq 21 31 (bz 42 4194303) (by kernel_rfl) rfl rfl (by rintro w' ⟨s0, s1, s2⟩; go_simp; with_reducible rfl) hHeld ?_
        refine pq 22 32 (bz 42 8388607) (by kernel_rfl) ?_
        refine pq 23 33 (bz 42 16777215) (by kernel_rfl) ?_
        refine pq 24 34 (bz 42 33554431) (by kernel_rfl) ?_
        refine pq 25 35 (bz 42 67108863) (by kernel_rfl) ?_
        refine pq 26 36 (bz 42 134217727) (by kernel_rfl) ?_
        refine pq 27 37 (bz 42 268435455) (by kernel_rfl) ?_
        refine pq 28 38 (bz 42 536870911) (by kernel_rfl) ?_
        refine pq 29 39 (bz 42 1073741823) (by kernel_rfl) ?_
        refine pq 30 40 (bz 42 2147483647) (by kernel_rfl) ?_
        refine pq 31 41 (bz 42 4294967295) (by kernel_rfl) ?_
        refine tq 32 42 (bz 42 8589934591) (by kernel_rfl) rfl rfl (by rintro w' ⟨s0, s1, s2⟩; go_simp; with_reducible rfl) hHeld ?_
        refine pq 33 43 (bz 42 17179869183) (by kernel_rfl) ?_
        refine pq 34 44 (bz 42 34359738367) (by kernel_rfl) ?_
        refine pq 35 45 (bz 42 68719476735) (by kernel_rfl) ?_
        refine pq 36 46 (bz 42 137438953471) (by kernel_rfl) ?_
        refine pq 37 47 (bz 42 274877906943) (by kernel_rfl) ?_
        refine tq 38 48 (bz 42 549755813887) (by kernel_rfl) rfl rfl (by rintro w' ⟨s0, s1, s2⟩; go_simp; with_reducible rfl) hHeld ?_
        refine pq 39 49 (bz 42 1099511627775) (by kernel_rfl) ?_
        refine pq 40 50 (bz 42 2199023255551) (by kernel_rfl) ?_
        refine pq 41 51 (bz 42 4398046511103) (by kernel_rfl) ?_
        refine done_ (by kernel_rfl) ?_
        go_wp2
        go_ret
        exact ⟨by rw [HG.out]; rfl, by repeat (first | exact HB1.out | apply pw_below_drewN | apply below_drew)⟩
       | true =>
        have HG : Aside0 (okL (some x.f0) (l.drop (j + 1 + 1)) = okL none l) := ⟨by rw [← hI2, hq]; simp⟩
        clear hI hI2 hd hx hxm hC hmb HI hy eA2 y3 hPY
        go_wp2_with (fail)
        refine start_ (n := 42) (S := fun w' => w'.cell? (ad.add ((j + 1) * 2)) = some (.string x.f0) ∧ w'.cell? ⟨(ad.add ((j + 1) * 2)).block, (ad.add ((j + 1) * 2)).off + 1, none⟩ = some (.string x.f1) ∧ w'.cell? (ad.add (j * 2)) = some (.string y.f0)) (ds := []) (bz 42 0) (by kernel_rfl) rfl rfl ⟨y0, y1, y2⟩ (fun hHeld => ?_)
        refine pq 0 10 (bz 42 1) (by kernel_rfl) ?_
        refine pq 1 11 (bz 42 3) (by kernel_rfl) ?_
        refine pq 2 12 (bz 42 7) (by kernel_rfl) ?_
        refine pq 3 13 (bz 42 15) (by kernel_rfl) ?_
        refine tq 4 14 (bz 42 31) (by kernel_rfl) rfl rfl (by rintro w' ⟨s0, s1, s2⟩; go_simp; with_reducible rfl) hHeld ?_
        refine one_ (i := 5) (N := some 15) (bz 42 63) rfl rfl (by kernel_rfl) (by decide) (fun K hK => ?_)
        refine goes_ Tryz.func46 (by kernel_rfl) rfl #[.string x.f0] (by rfl) rfl rfl (by (try simp only [List.map_toArray, List.map_cons, List.map_nil]); first | done | rfl) ?_
        refine (HN.out _).mono ?_
        rintro e w1 ⟨rfl, m1, rfl⟩
        refine ⟨_, rfl, ?_⟩
        refine hK.out _ _ ⟨y0, y1, y2⟩ (fun hHeld => ?_)
        clear hK K
        refine norm_ (show Act.put _ (some 15) _ = _ by simp only [pu, s0, s1, i64_w, i32_w]; rfl) ?_
        refine pq 6 16 (bz 42 127) (by kernel_rfl) ?_
        refine pq 7 17 (bz 42 255) (by kernel_rfl) ?_
        refine pq 8 18 (bz 42 511) (by kernel_rfl) ?_
        refine pq 9 19 (bz 42 1023) (by kernel_rfl) ?_
        refine pq 10 20 (bz 42 2047) (by kernel_rfl) ?_
        refine pq 11 21 (bz 42 4095) (by kernel_rfl) ?_
        refine tq 12 22 (bz 42 8191) (by kernel_rfl) rfl rfl (by rintro w' ⟨s0, s1, s2⟩; go_simp; with_reducible rfl) hHeld ?_
        refine one_ (i := 13) (N := some 23) (bz 42 16383) rfl rfl (by kernel_rfl) (by decide) (fun K hK => ?_)
        refine goes_ Tryz.func47 (by kernel_rfl) rfl #[.string x.f1] (by rfl) rfl rfl (by (try simp only [List.map_toArray, List.map_cons, List.map_nil]); first | done | rfl) ?_
        refine (HV.out _).mono ?_
        rintro e w2 ⟨rfl, m2, rfl⟩
        refine ⟨_, rfl, ?_⟩
        refine hK.out _ _ ⟨y0, y1, y2⟩ (fun hHeld => ?_)
        clear hK K
        refine norm_ (show Act.put _ (some 23) _ = _ by simp only [pu, s0, s1, i64_w, i32_w]; rfl) ?_
        refine pq 14 24 (bz 42 32767) (by kernel_rfl) ?_
        refine pq 15 25 (bz 42 65535) (by kernel_rfl) ?_
        refine pq 16 26 (bz 42 131071) (by kernel_rfl) ?_
        refine pq 17 27 (bz 42 262143) (by kernel_rfl) ?_
        refine pq 18 28 (bz 42 524287) (by kernel_rfl) ?_
        refine pq 19 29 (bz 42 1048575) (by kernel_rfl) ?_
        refine pq 20 30 (bz 42 2097151) (by kernel_rfl) ?_
        refine tq 21 31 (bz 42 4194303) (by kernel_rfl) rfl rfl (by rintro w' ⟨s0, s1, s2⟩; go_simp; with_reducible rfl) hHeld ?_
        refine pq 22 32 (bz 42 8388607) (by kernel_rfl) ?_
        refine pq 23 33 (bz 42 16777215) (by kernel_rfl) ?_
        refine pq 24 34 (bz 42 33554431) (by kernel_rfl) ?_
        refine pq 25 35 (bz 42 67108863) (by kernel_rfl) ?_
        refine pq 26 36 (bz 42 134217727) (by kernel_rfl) ?_
        refine pq 27 37 (bz 42 268435455) (by kernel_rfl) ?_
        refine pq 28 38 (bz 42 536870911) (by kernel_rfl) ?_
        refine pq 29 39 (bz 42 1073741823) (by kernel_rfl) ?_
        refine pq 30 40 (bz 42 2147483647) (by kernel_rfl) ?_
        refine pq 31 41 (bz 42 4294967295) (by kernel_rfl) ?_
        refine tq 32 42 (bz 42 8589934591) (by kernel_rfl) rfl rfl (by rintro w' ⟨s0, s1, s2⟩; go_simp; with_reducible rfl) hHeld ?_
        refine pq 33 43 (bz 42 17179869183) (by kernel_rfl) ?_
        refine pq 34 44 (bz 42 34359738367) (by kernel_rfl) ?_
        refine pq 35 45 (bz 42 68719476735) (by kernel_rfl) ?_
        refine pq 36 46 (bz 42 137438953471) (by kernel_rfl) ?_
        refine pq 37 47 (bz 42 274877906943) (by kernel_rfl) ?_
        refine tq 38 48 (bz 42 549755813887) (by kernel_rfl) rfl rfl (by rintro w' ⟨s0, s1, s2⟩; go_simp; with_reducible rfl) hHeld ?_
        refine pq 39 49 (bz 42 1099511627775) (by kernel_rfl) ?_
        refine pq 40 50 (bz 42 2199023255551) (by kernel_rfl) ?_
        refine pq 41 51 (bz 42 4398046511103) (by kernel_rfl) ?_
        refine done_ (by kernel_rfl) ?_
        go_wp2
        go_roundw
        case rel => exact ⟨j + 1 + 1, by go_num, by omega, ⟨by rw [HX2.out, HG.out]⟩, ⟨by repeat (first | exact HB1.out | apply pw_below_drewN | apply below_drew)⟩⟩
        case measure => simp [intOf]; omega
  ·obtain rfl : i = l.length := by omega
   have hG : okL none l = true := by rw [← HI.out, List.drop_length]; unfold okL; rfl
   have HG : Aside0 (rightB l = decide ((l.length : Int) ≤ 16)) := ⟨by unfold rightB; rw [hG, Bool.true_and]; apply decide_eq_decide.mpr; omega⟩
   clear hG HI
   go_wp2
   go_ret
   exact ⟨by rw [HG.out]; simp, HB1.out⟩
end Go.Proofs.YtfbockgjhbfidaaGreatDoor.Pr
