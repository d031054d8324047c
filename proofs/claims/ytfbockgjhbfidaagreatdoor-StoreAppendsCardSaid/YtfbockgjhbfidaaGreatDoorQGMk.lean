/- Texts of this session, cut down to what one claim needs and joined: LbMk, LbMk2. -/
import Derived.Test.YtfbockgjhbfidaaGreatDoorQGSort
import Derived.Test.YtfbockgjhbfidaaGreatDoorQGDel
import Derived.Test.YtfbockgjhbfidaaGreatDoorQGLaid
import Derived.Test.YtfbockgjhbfidaaGreatDoorQLbRight
section
set_option linter.unusedVariables false
set_option linter.unusedSimpArgs false
namespace Go.Proofs.YtfbockgjhbfidaaGreatDoor.Pr
open Go.RowKit Go.Proofs.YtfbockgjhbfidaaGreatDoorW.PrintWords Go.Proofs.YtfbockgjhbfidaaGreatDoorW.PrintLast Go.Proofs.YtfbockgjhbfidaaGreatDoorW.PrintMore

set_option maxHeartbeats 4000000 in
theorem empty_any (x : S44) (w : World) : Calls Tryz.prog 41 #[.agg #[.string x.f0, .string x.f1]] w fun e w' => e = .returned (.bool (x.f1.toList == [])) ∧ Below w.heap.size w w' := by
 go_enter Tryz.func41, Tryz.ntmps41
 go_wp2
 go_ret
 exact ⟨by simp, by repeat (first | exact Below.refl _ _ | apply below_drew | apply below_alloc | apply pw_below_drewN)⟩

end Go.Proofs.YtfbockgjhbfidaaGreatDoor.Pr
end

section
set_option linter.unusedVariables false
set_option linter.unusedSimpArgs false
namespace Go.Proofs.YtfbockgjhbfidaaGreatDoor.Pr
open Go.RowKit Go.Proofs.YtfbockgjhbfidaaGreatDoorW.PrintWords Go.Proofs.YtfbockgjhbfidaaGreatDoorW.PrintLast Go.Proofs.YtfbockgjhbfidaaGreatDoorW.PrintMore

/-- What Make's loop asks of labels in order, from a place on. -/
def goodL : Option ByteArray → List S44 → Bool
 | _, [] => true
 | p, x :: r => mayB x && (match p with | none => true | some q => !(q.toList == x.f0.toList)) && goodL (some x.f0) r
def makeV (l : List S44) : List S44 × Option Int :=
 if goodL none l = true then (if rightB (l.filter fun x => !(x.f1.toList == [])) = true then (l.filter fun x => !(x.f1.toList == []), none) else ([], some 1)) else ([], some 1)
set_option maxHeartbeats 8000000 in
set_option maxRecDepth 100000 in
theorem make_loop (A0 : Option Addr) (c0 : Nat) (l0 : List S44) (w : World) (hL : LaidAll w) (hr0 : Kd.C k44 w A0 l0.length l0) (hc0 : l0.length ≤ c0) (hb : l0.length ≤ 1000) (hs : ∀ x ∈ l0, x.f1.size ≤ 9223372036854775807) :
  Calls Tryz.prog 18 #[.slice A0 l0.length c0] w fun e w' => ∃ l : List S44, l.Perm l0 ∧ Sorted l ∧ ∃ v0_, e = .returned (.tuple #[v0_, errW (makeV l).2]) ∧ Kd.R k44 44 w' w.heap.size (fun _ => True) v0_ (makeV l).1 ∧ Below w.heap.size w w' := by
 have HC := Aside0.mk (clone_Lb A0 c0 l0 w hr0 hc0 (by omega))
 clear hr0
 go_enter Tryz.func18, Tryz.ntmps18
 go_wp2_with (go_at_call 36; refine HC.out.mono ?_; rintro e w1 ⟨v, rfl, HO, hb1⟩; have HO1 := Aside0.mk HO; have HB1 := Aside0.mk hb1; clear HO hb1 HC)
 have HS := Aside0.mk (sort_Lb w.heap.size w w1 HB1.out HB1.out.size v l0 HO1.out (by omega))
 go_wp2_with (go_at_call 37; refine HS.out.mono ?_; rintro e w2 ⟨rfl, l, hp, hso, HO, hb1⟩; have hlen := hp.length_eq; obtain ⟨A, c, hv, hcl, hC⟩ := Kd.R_reads HO; subst hv; have HO2 := Aside0.mk HO; have HB2 := Aside0.mk hb1; have HP := Aside0.mk hp; have HSO := Aside0.mk hso; have HC2 := Aside0.mk hC; clear HO hb1 HS hp hso hC HO1)
 have hl1000 : l.length ≤ 1000 := by omega
 have HT : Aside0 (∀ x ∈ l, ∀ w', Below w2.heap.size w2 w' → Calls Tryz.prog 39 #[.agg #[.string x.f0, .string x.f1]] w' fun e w'' => e = .returned (.bool (mayB x)) ∧ Below w'.heap.size w' w'') := ⟨fun x hx w' hb => may_any x (hs x (HP.out.subset hx)) w' (hL.2.below (below_then HB2.out HB2.out.size hb))⟩
 have HL := Aside0.mk hL
 have HS0 := Aside0.mk hs
 clear hL hs
 go_loopw [13] (fun v13 w' => ∃ (i : Nat), v13 = .int .i64 i ∧ i ≤ l.length ∧ Aside0 (goodL (prevL l i) (l.drop i) = goodL none l) ∧ Aside0 (Below w2.heap.size w2 w')) (fun v13 _ => l.length - (intOf v13).toNat)
 case atStart => exact ⟨0, rfl, Nat.zero_le _, ⟨rfl⟩, ⟨Below.refl _ _⟩⟩
 case round =>
  obtain ⟨i, rfl, hil, HI, HB1⟩ := hrel
  by_cases hlt : i < l.length
  ·have hC := Kd.C_below HC2.out HB1.out
   obtain ⟨ad, eA, y0, y1⟩ := at_T44 hC (i : Nat) (by omega) (by omega)
   cases eA
   obtain ⟨x, hx⟩ : ∃ x, x = rd_T44 l (i : Nat) := ⟨_, rfl⟩
   have hxm : x ∈ l := by rw [hx]; simp [rd_T44, hlt]
   have hd : l.drop i = x :: l.drop (i + 1) := by
    rw [List.drop_eq_getElem_cons hlt, hx]; simp [rd_T44, hlt]
   have hI := HI.out
   rw [hd] at hI
   rw [← hx] at y0 y1
   simp only [Int.toNat_natCast] at y0 y1
   have HX := Aside0.mk hx
   have hM := HT.out x hxm
   have HB3 := Aside0.mk (below_alloc HB1.out (.cells #[.string x.f0, .string x.f1] 44))
   have p0 : (wr.alloc (.cells #[.string x.f0, .string x.f1] 44)).drew.cell? ⟨wr.heap.size, 0, none⟩ = some (.string x.f0) := by go_simp
   have p1 : (wr.alloc (.cells #[.string x.f0, .string x.f1] 44)).drew.cell? ⟨wr.heap.size, 1, none⟩ = some (.string x.f1) := by go_simp
   have hlt2 : i < l0.length := by omega
   cases hm : mayB x with
   | false =>
    have HG : Aside0 (goodL none l = false) := ⟨by rw [← hI]; unfold goodL; rw [hm]; rfl⟩
    rw [hm] at hM
    have HM := Aside0.mk hM
    clear hM hI hd hx hxm hC hm HI
    go_wp2_with (fail)
    refine start_ (n := 18) (S := fun w' => w'.cell? ⟨wr.heap.size, 0, none⟩ = some (.string x.f0) ∧ w'.cell? ⟨wr.heap.size, 1, none⟩ = some (.string x.f1)) (ds := []) (bz 18 0) (by kernel_rfl) rfl rfl ⟨p0, p1⟩ (fun hHeld => ?_)
    refine tq 0 18 (bz 18 1) (by kernel_rfl) rfl rfl (by rintro w' ⟨s0, s1⟩; go_simp; with_reducible rfl) hHeld ?_
    refine one_ (i := 1) (N := some 19) (bz 18 3) rfl rfl (by kernel_rfl) (by decide) (fun K hK => ?_)
    refine goes_ Tryz.func39 (by kernel_rfl) rfl #[.agg #[.string x.f0, .string x.f1]] (by rfl) rfl rfl (by (try simp only [List.map_toArray, List.map_cons, List.map_nil]); first | done | rfl) ?_
    refine (HM.out _ (below_drew HB3.out)).mono ?_
    rintro e w12 ⟨rfl, hb⟩
    refine ⟨_, rfl, ?_⟩
    refine hK.out _ _ ⟨pw_cell_below hb p0, pw_cell_below hb p1⟩ (fun hHeld => ?_)
    clear hK K
    refine norm_ (show Act.put _ (some 19) _ = _ by simp only [pu, s0, s1, i64_w, i32_w]; rfl) ?_
    refine pq 2 20 (bz 18 7) (by kernel_rfl) ?_
    refine pq 3 21 (bz 18 15) (by kernel_rfl) ?_
    refine pn 4 22 (bz 18 31) (by kernel_rfl) ?_
    refine pn 5 23 (bz 18 63) (by kernel_rfl) ?_
    refine pn 6 24 (bz 18 127) (by kernel_rfl) ?_
    refine pn 7 25 (bz 18 255) (by kernel_rfl) ?_
    refine pn 8 26 (bz 18 511) (by kernel_rfl) ?_
    refine pn 9 27 (bz 18 1023) (by kernel_rfl) ?_
    refine pn 10 28 (bz 18 2047) (by kernel_rfl) ?_
    refine pn 11 29 (bz 18 4095) (by kernel_rfl) ?_
    refine pn 12 30 (bz 18 8191) (by kernel_rfl) ?_
    refine pn 13 31 (bz 18 16383) (by kernel_rfl) ?_
    refine pn 14 32 (bz 18 32767) (by kernel_rfl) ?_
    refine pn 15 33 (bz 18 65535) (by kernel_rfl) ?_
    refine pn 16 34 (bz 18 131071) (by kernel_rfl) ?_
    refine pq 17 35 (bz 18 262143) (by kernel_rfl) ?_
    refine done_ (by kernel_rfl) ?_
    go_wp2
    go_ret2
    have hmv : makeV l = ([], some 1) := by unfold makeV; rw [HG.out]; rfl
    exact ⟨l, HP.out, HSO.out, .slice none 0 0, by rw [hmv]; rfl, by rw [hmv]; exact Kd.R_nil _ _ _ _ _, below_then HB2.out HB2.out.size (below_step (below_drew HB3.out) hb)⟩
   | true =>
    rw [hm] at hM
    have HM := Aside0.mk hM
    clear hM
    cases i with
    | zero =>
     have hI2 : (mayB x && true && goodL (some x.f0) (l.drop 1)) = goodL none l := hI
     rw [hm] at hI2
     have HG : Aside0 (goodL (some x.f0) (l.drop 1) = goodL none l) := ⟨by simpa using hI2⟩
     clear hI2
     have HX2 : Aside0 (prevL l 1 = some x.f0) := ⟨by rw [hx]; rfl⟩
     have e0 : ad.add (0 * 2) = ad := by cases ad; simp [Addr.add]
     rw [e0] at y0 y1
     clear hI hd hx hxm hC hm HI e0
     go_wp2_with (fail)
     refine start_ (n := 18) (S := fun w' => w'.cell? ⟨wr.heap.size, 0, none⟩ = some (.string x.f0) ∧ w'.cell? ⟨wr.heap.size, 1, none⟩ = some (.string x.f1)) (ds := []) (bz 18 0) (by kernel_rfl) rfl rfl ⟨p0, p1⟩ (fun hHeld => ?_)
     refine tq 0 18 (bz 18 1) (by kernel_rfl) rfl rfl (by rintro w' ⟨s0, s1⟩; go_simp; with_reducible rfl) hHeld ?_
     refine one_ (i := 1) (N := some 19) (bz 18 3) rfl rfl (by kernel_rfl) (by decide) (fun K hK => ?_)
     refine goes_ Tryz.func39 (by kernel_rfl) rfl #[.agg #[.string x.f0, .string x.f1]] (by rfl) rfl rfl (by (try simp only [List.map_toArray, List.map_cons, List.map_nil]); first | done | rfl) ?_
     refine (HM.out _ (below_drew HB3.out)).mono ?_
     rintro e w12 ⟨rfl, hb⟩
     refine ⟨_, rfl, ?_⟩
     refine hK.out _ _ ⟨pw_cell_below hb p0, pw_cell_below hb p1⟩ (fun hHeld => ?_)
     clear hK K
     refine norm_ (show Act.put _ (some 19) _ = _ by simp only [pu, s0, s1, i64_w, i32_w]; rfl) ?_
     refine pq 2 20 (bz 18 7) (by kernel_rfl) ?_
     refine pq 3 21 (bz 18 15) (by kernel_rfl) ?_
     refine pq 4 22 (bz 18 31) (by kernel_rfl) ?_
     refine pq 5 23 (bz 18 63) (by kernel_rfl) ?_
     refine pq 6 24 (bz 18 127) (by kernel_rfl) ?_
     refine pn 7 25 (bz 18 255) (by kernel_rfl) ?_
     refine pn 8 26 (bz 18 511) (by kernel_rfl) ?_
     refine pn 9 27 (bz 18 1023) (by kernel_rfl) ?_
     refine pn 10 28 (bz 18 2047) (by kernel_rfl) ?_
     refine pn 11 29 (bz 18 4095) (by kernel_rfl) ?_
     refine pn 12 30 (bz 18 8191) (by kernel_rfl) ?_
     refine pn 13 31 (bz 18 16383) (by kernel_rfl) ?_
     refine pn 14 32 (bz 18 32767) (by kernel_rfl) ?_
     refine pn 15 33 (bz 18 65535) (by kernel_rfl) ?_
     refine pq 16 34 (bz 18 131071) (by kernel_rfl) ?_
     refine pq 17 35 (bz 18 262143) (by kernel_rfl) ?_
     refine done_ (by kernel_rfl) ?_
     go_wp2
     go_roundw
     case rel => exact ⟨1, by go_num, by omega, ⟨by rw [HX2.out, HG.out]⟩, ⟨below_step (below_drew HB3.out) hb⟩⟩
     case measure => simp [intOf]; omega
    | succ j =>
     obtain ⟨ad2, eA2, y2, y3⟩ := at_T44 hC (j : Nat) (by omega) (by omega)
     obtain rfl := Option.some.inj eA2
     obtain ⟨y, hy⟩ : ∃ y, y = rd_T44 l (j : Nat) := ⟨_, rfl⟩
     rw [← hy] at y2
     simp only [Int.toNat_natCast] at y2
     have p2 : (wr.alloc (.cells #[.string x.f0, .string x.f1] 44)).drew.cell? (ad.add (j * 2)) = some (.string y.f0) := pw_cell_below (below_drew (below_alloc (Below.refl _ _) _)) y2
     have z1 : IntKind.i64.wrap (((j : Int) + 1) - 1) = (j : Int) := by rw [Int.add_sub_cancel]; exact IntWalk.i64_in _ (by omega)
     have z2 : IntKind.i64.wrap (j : Int) = (j : Int) := IntWalk.i64_in _ (by omega)
     have hj0 : (0 : Int) ≤ (j : Int) := by omega
     have hj1 : (j : Int) < (l0.length : Int) := by omega
     have hj2 : (0 : Int) < (j : Int) + 1 := by omega
     have HX2 : Aside0 (prevL l (j + 1 + 1) = some x.f0) := ⟨by rw [hx]; rfl⟩
     have hPY : prevL l (j + 1) = some y.f0 := by rw [hy]; rfl
     rw [hPY] at hI
     have hI2 : (mayB x && !(y.f0.toList == x.f0.toList) && goodL (some x.f0) (l.drop (j + 1 + 1))) = goodL none l := hI
     rw [hm] at hI2
     cases hq : (y.f0.toList == x.f0.toList) with
     | true =>
      have HG : Aside0 (goodL none l = false) := ⟨by rw [← hI2, hq]; rfl⟩
      clear hI hI2 hd hx hxm hC hm HI hy eA2 y3 hPY
      go_wp2_with (fail)
      refine start_ (n := 18) (S := fun w' => w'.cell? ⟨wr.heap.size, 0, none⟩ = some (.string x.f0) ∧ w'.cell? ⟨wr.heap.size, 1, none⟩ = some (.string x.f1) ∧ w'.cell? (ad.add (j * 2)) = some (.string y.f0)) (ds := []) (bz 18 0) (by kernel_rfl) rfl rfl ⟨p0, p1, p2⟩ (fun hHeld => ?_)
      refine tq 0 18 (bz 18 1) (by kernel_rfl) rfl rfl (by rintro w' ⟨s0, s1, s2⟩; go_simp; with_reducible rfl) hHeld ?_
      refine one_ (i := 1) (N := some 19) (bz 18 3) rfl rfl (by kernel_rfl) (by decide) (fun K hK => ?_)
      refine goes_ Tryz.func39 (by kernel_rfl) rfl #[.agg #[.string x.f0, .string x.f1]] (by rfl) rfl rfl (by (try simp only [List.map_toArray, List.map_cons, List.map_nil]); first | done | rfl) ?_
      refine (HM.out _ (below_drew HB3.out)).mono ?_
      rintro e w12 ⟨rfl, hb⟩
      refine ⟨_, rfl, ?_⟩
      refine hK.out _ _ ⟨pw_cell_below hb p0, pw_cell_below hb p1, pw_cell_below hb p2⟩ (fun hHeld => ?_)
      clear hK K
      refine norm_ (show Act.put _ (some 19) _ = _ by simp only [pu, s0, s1, i64_w, i32_w]; rfl) ?_
      refine pq 2 20 (bz 18 7) (by kernel_rfl) ?_
      refine pq 3 21 (bz 18 15) (by kernel_rfl) ?_
      refine pq 4 22 (bz 18 31) (by kernel_rfl) ?_
      refine pq 5 23 (bz 18 63) (by kernel_rfl) ?_
      refine pq 6 24 (bz 18 127) (by kernel_rfl) ?_
      refine pq 7 25 (bz 18 255) (by kernel_rfl) ?_
      refine pq 8 26 (bz 18 511) (by kernel_rfl) ?_
      refine pq 9 27 (bz 18 1023) (by kernel_rfl) ?_
      refine pq 10 28 (bz 18 2047) (by kernel_rfl) ?_
      refine pq 11 29 (bz 18 4095) (by kernel_rfl) ?_
      refine tq 12 30 (bz 18 8191) (by kernel_rfl) rfl rfl (by rintro w' ⟨s0, s1, s2⟩; go_simp; with_reducible rfl) hHeld ?_
      refine pq 13 31 (bz 18 16383) (by kernel_rfl) ?_
      refine tq 14 32 (bz 18 32767) (by kernel_rfl) rfl rfl (by rintro w' ⟨s0, s1, s2⟩; go_simp; with_reducible rfl) hHeld ?_
      refine pq 15 33 (bz 18 65535) (by kernel_rfl) ?_
      refine pq 16 34 (bz 18 131071) (by kernel_rfl) ?_
      refine pq 17 35 (bz 18 262143) (by kernel_rfl) ?_
      refine done_ (by kernel_rfl) ?_
      go_wp2
      go_ret2
      have hmv : makeV l = ([], some 1) := by unfold makeV; rw [HG.out]; rfl
      exact ⟨l, HP.out, HSO.out, .slice none 0 0, by rw [hmv]; rfl, by rw [hmv]; exact Kd.R_nil _ _ _ _ _, below_then HB2.out HB2.out.size (below_step (below_drew HB3.out) hb)⟩
     | false =>
      have HG : Aside0 (goodL (some x.f0) (l.drop (j + 1 + 1)) = goodL none l) := ⟨by rw [← hI2, hq]; simp⟩
      clear hI hI2 hd hx hxm hC hm HI hy eA2 y3 hPY
      go_wp2_with (fail)
      refine start_ (n := 18) (S := fun w' => w'.cell? ⟨wr.heap.size, 0, none⟩ = some (.string x.f0) ∧ w'.cell? ⟨wr.heap.size, 1, none⟩ = some (.string x.f1) ∧ w'.cell? (ad.add (j * 2)) = some (.string y.f0)) (ds := []) (bz 18 0) (by kernel_rfl) rfl rfl ⟨p0, p1, p2⟩ (fun hHeld => ?_)
      refine tq 0 18 (bz 18 1) (by kernel_rfl) rfl rfl (by rintro w' ⟨s0, s1, s2⟩; go_simp; with_reducible rfl) hHeld ?_
      refine one_ (i := 1) (N := some 19) (bz 18 3) rfl rfl (by kernel_rfl) (by decide) (fun K hK => ?_)
      refine goes_ Tryz.func39 (by kernel_rfl) rfl #[.agg #[.string x.f0, .string x.f1]] (by rfl) rfl rfl (by (try simp only [List.map_toArray, List.map_cons, List.map_nil]); first | done | rfl) ?_
      refine (HM.out _ (below_drew HB3.out)).mono ?_
      rintro e w12 ⟨rfl, hb⟩
      refine ⟨_, rfl, ?_⟩
      refine hK.out _ _ ⟨pw_cell_below hb p0, pw_cell_below hb p1, pw_cell_below hb p2⟩ (fun hHeld => ?_)
      clear hK K
      refine norm_ (show Act.put _ (some 19) _ = _ by simp only [pu, s0, s1, i64_w, i32_w]; rfl) ?_
      refine pq 2 20 (bz 18 7) (by kernel_rfl) ?_
      refine pq 3 21 (bz 18 15) (by kernel_rfl) ?_
      refine pq 4 22 (bz 18 31) (by kernel_rfl) ?_
      refine pq 5 23 (bz 18 63) (by kernel_rfl) ?_
      refine pq 6 24 (bz 18 127) (by kernel_rfl) ?_
      refine pq 7 25 (bz 18 255) (by kernel_rfl) ?_
      refine pq 8 26 (bz 18 511) (by kernel_rfl) ?_
      refine pq 9 27 (bz 18 1023) (by kernel_rfl) ?_
      refine pq 10 28 (bz 18 2047) (by kernel_rfl) ?_
      refine pq 11 29 (bz 18 4095) (by kernel_rfl) ?_
      refine tq 12 30 (bz 18 8191) (by kernel_rfl) rfl rfl (by rintro w' ⟨s0, s1, s2⟩; go_simp; with_reducible rfl) hHeld ?_
      refine pq 13 31 (bz 18 16383) (by kernel_rfl) ?_
      refine tq 14 32 (bz 18 32767) (by kernel_rfl) rfl rfl (by rintro w' ⟨s0, s1, s2⟩; go_simp; with_reducible rfl) hHeld ?_
      refine pq 15 33 (bz 18 65535) (by kernel_rfl) ?_
      refine pq 16 34 (bz 18 131071) (by kernel_rfl) ?_
      refine pq 17 35 (bz 18 262143) (by kernel_rfl) ?_
      refine done_ (by kernel_rfl) ?_
      go_wp2
      go_roundw
      case rel => exact ⟨j + 1 + 1, by go_num, by omega, ⟨by rw [HX2.out, HG.out]⟩, ⟨below_step (below_drew HB3.out) hb⟩⟩
      case measure => simp [intOf]; omega
  ·obtain rfl : i = l.length := by omega
   have HG : Aside0 (goodL none l = true) := ⟨by rw [← HI.out, List.drop_length]; unfold goodL; rfl⟩
   have hBt := below_then HB2.out HB2.out.size HB1.out
   have eg : ∀ args w, (callFunc 41 args).run Tryz.prog w = .ok (.enter 41 args) w := enters_of Tryz.func41 (by kernel_rfl) rfl
   have hO2 := Kd.R_below HO2.out HB1.out
   rw [hlen] at hO2
   have hDel := Aside0.mk (deleteFunc_Lb (fun x => x.f1.toList == []) 41 #[] w.heap.size w wr hBt hBt.size _ l hO2 (by omega) eg (fun x w1 _ => empty_any x w1))
   obtain ⟨d, hd⟩ : ∃ d, d = l.filter (fun x => !(x.f1.toList == [])) := ⟨_, rfl⟩
   rw [← hd] at hDel
   have hdl : d.length ≤ 1000 := by rw [hd]; exact Nat.le_trans (List.length_filter_le _ _) hl1000
   have hds : ∀ x ∈ d, x.f1.size ≤ 9223372036854775807 := fun x hx => HS0.out x (HP.out.subset (by rw [hd] at hx; exact (List.mem_filter.1 hx).1))
   have hmv : makeV l = if rightB d = true then (d, none) else ([], some 1) := by unfold makeV; rw [if_pos HG.out, ← hd]
   have HMV := Aside0.mk hmv
   have HDS := Aside0.mk hds
   have HDD := Aside0.mk hd
   clear hmv hds hd hBt HI hlt hO2
   go_wp2_with (go_at_call 40; refine hDel.out.mono ?_; rintro e w5 ⟨v5, rfl, HO5, hb5⟩; obtain ⟨A5, c5, hv5, hcl5, hC5⟩ := Kd.R_reads HO5; subst hv5; have hR := right_any A5 c5 d w5 hC5 hcl5 hdl HDS.out (HL.out.2.below hb5); have HR5 := Aside0.mk HO5; have HB5 := Aside0.mk hb5; clear HO5 hb5 hC5 hDel)
   cases hr : rightB d with
   | true =>
    rw [hr] at hR
    have hmv := HMV.out
    rw [hr, if_pos rfl] at hmv
    have HMV2 := Aside0.mk hmv
    clear hmv HMV hr
    go_wp2_with (go_at_call 33; refine hR.mono ?_; rintro e w6 ⟨rfl, hb6⟩)
    go_ret2
    exact ⟨l, HP.out, HSO.out, _, by rw [HMV2.out]; rfl, by rw [HMV2.out]; exact Kd.R_below HR5.out hb6, below_then HB5.out HB5.out.size hb6⟩
   | false =>
    rw [hr] at hR
    have hmv := HMV.out
    rw [hr, if_neg (by simp)] at hmv
    have HMV2 := Aside0.mk hmv
    clear hmv HMV hr
    go_wp2_with (go_at_call 33; refine hR.mono ?_; rintro e w6 ⟨rfl, hb6⟩)
    go_ret2
    exact ⟨l, HP.out, HSO.out, .slice none 0 0, by rw [HMV2.out]; rfl, by rw [HMV2.out]; exact Kd.R_nil _ _ _ _ _, below_then HB5.out HB5.out.size hb6⟩
end Go.Proofs.YtfbockgjhbfidaaGreatDoor.Pr
end
