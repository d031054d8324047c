/- Texts of this session, cut down to what one claim needs and joined: LbRight. -/
import Derived.Test.YtfbockgjhbfidaaGreatDoorQGVal
set_option linter.unusedVariables false
set_option linter.unusedSimpArgs false
namespace Go.Proofs.YtfbockgjhbfidaaGreatDoor.Pr
open Go.RowKit Go.Proofs.YtfbockgjhbfidaaGreatDoorW.PrintWords Go.Proofs.YtfbockgjhbfidaaGreatDoorW.PrintLast Go.Proofs.YtfbockgjhbfidaaGreatDoorW.PrintMore

theorem str_geq (t : TypeId) (a b : ByteArray) : binOp .geq t (.string a) (.string b) = pure (.bool !(Op.bytesLess a.toList b.toList)) := by simp [binOp, Op.stringOp]
attribute [local go_sem] str_geq
/-- Right from a place on. -/
def okL : Option ByteArray → List S44 → Bool
 | _, [] => true
 | p, x :: r => mayB x && !(x.f1.toList == []) && (match p with | none => true | some q => Op.bytesLess q.toList x.f0.toList) && okL (some x.f0) r
def rightB (l : List S44) : Bool := okL none l && decide (l.length ≤ 16)
def prevL (l : List S44) : Nat → Option ByteArray
 | 0 => none
 | j + 1 => some (rd_T44 l (j : Nat)).f0

set_option maxHeartbeats 8000000 in
set_option maxRecDepth 100000 in
theorem right_any (A : Option Addr) (cap : Nat) (l : List S44) (w : World) (hr : Kd.C k44 w A l.length l) (hc : l.length ≤ cap) (hb : l.length ≤ 1000) (hs : ∀ x ∈ l, x.f1.size ≤ 9223372036854775807) (hT : LaidV w) :
  Calls Tryz.prog 33 #[.slice A l.length cap] w fun e w' => e = .returned (.bool (rightB l)) ∧ Below w.heap.size w w' := by
 have HR0 := Aside0.mk hr
 have HT : Aside0 (∀ x ∈ l, ∀ w', Below w.heap.size w w' → Calls Tryz.prog 39 #[.agg #[.string x.f0, .string x.f1]] w' fun e w'' => e = .returned (.bool (mayB x)) ∧ Below w'.heap.size w' w'') := ⟨fun x hx w' hb => may_any x (hs x hx) w' (hT.below hb)⟩
 clear hr hs hT
 go_enter Tryz.func33, Tryz.ntmps33
 go_wp2
 go_loopw [7] (fun v7 w' => ∃ (i : Nat), v7 = .int .i64 i ∧ i ≤ l.length ∧ Aside0 (okL (prevL l i) (l.drop i) = okL none l) ∧ Aside0 (Below w.heap.size w w')) (fun v7 _ => l.length - (intOf v7).toNat)
 case atStart => exact ⟨0, rfl, Nat.zero_le _, ⟨rfl⟩, ⟨Below.refl _ _⟩⟩
 case round =>
  obtain ⟨i, rfl, hil, HI, HB1⟩ := hrel
  by_cases hlt : i < l.length
  ·have hC := Kd.C_below HR0.out HB1.out
   obtain ⟨ad, eA, y0, y1⟩ := at_T44 hC (i : Nat) (by omega) (by omega)
   cases eA
   obtain ⟨x, hx⟩ : ∃ x, x = rd_T44 l (i : Nat) := ⟨_, rfl⟩
   have hxm : x ∈ l := by rw [hx]; simp [rd_T44, hlt]
   have hd : l.drop i = x :: l.drop (i + 1) := by
    rw [List.drop_eq_getElem_cons hlt, hx]; simp [rd_T44, hlt]
   have hI := HI.out
   rw [hd] at hI
   rw [← hx] at y0 y1
   simp only [Int.toNat_natCast] at y0 y1
   have hM := HT.out x hxm
   have HB3 := Aside0.mk (below_alloc HB1.out (.cells #[.string x.f0, .string x.f1] 44))
   have p0 : (wr.alloc (.cells #[.string x.f0, .string x.f1] 44)).drew.cell? ⟨wr.heap.size, 0, none⟩ = some (.string x.f0) := by go_simp
   have p1 : (wr.alloc (.cells #[.string x.f0, .string x.f1] 44)).drew.cell? ⟨wr.heap.size, 1, none⟩ = some (.string x.f1) := by go_simp
   cases hm : mayB x with
   | false =>
    have HG : Aside0 (rightB l = false) := ⟨by unfold rightB; rw [← hI]; unfold okL; rw [hm]; rfl⟩
    rw [hm] at hM
    have HM := Aside0.mk hM
    clear hM hI hd hx hxm hC hm HI
    go_wp2_with (fail)
    refine start_ (n := 23) (S := fun w' => w'.cell? ⟨wr.heap.size, 0, none⟩ = some (.string x.f0) ∧ w'.cell? ⟨wr.heap.size, 1, none⟩ = some (.string x.f1)) (ds := []) (bz 23 0) (by kernel_rfl) rfl rfl ⟨p0, p1⟩ (fun hHeld => ?_)
    refine tq 0 12 (bz 23 1) (by kernel_rfl) rfl rfl (by rintro w' ⟨s0, s1⟩; go_simp; with_reducible rfl) hHeld ?_
    refine one_ (i := 1) (N := some 13) (bz 23 3) rfl rfl (by kernel_rfl) (by decide) (fun K hK => ?_)
    refine goes_ Tryz.func39 (by kernel_rfl) rfl #[.agg #[.string x.f0, .string x.f1]] (by rfl) rfl rfl (by (try simp only [List.map_toArray, List.map_cons, List.map_nil]); first | done | rfl) ?_
    refine (HM.out _ (below_drew HB3.out)).mono ?_
    rintro e w12 ⟨rfl, hb⟩
    refine ⟨_, rfl, ?_⟩
    refine hK.out _ _ ⟨pw_cell_below hb p0, pw_cell_below hb p1⟩ (fun hHeld => ?_)
    clear hK K
    refine norm_ (show Act.put _ (some 13) _ = _ by simp only [pu, s0, s1, i64_w, i32_w]; rfl) ?_
    refine pq 2 14 (bz 23 7) (by kernel_rfl) ?_
    refine pq 3 15 (bz 23 15) (by kernel_rfl) ?_
    refine pn 4 16 (bz 23 31) (by kernel_rfl) ?_
    refine pn 5 17 (bz 23 63) (by kernel_rfl) ?_
    refine pn 6 18 (bz 23 127) (by kernel_rfl) ?_
    refine pq 7 19 (bz 23 255) (by kernel_rfl) ?_
    refine pq 8 20 (bz 23 511) (by kernel_rfl) ?_
    refine pn 9 21 (bz 23 1023) (by kernel_rfl) ?_
    refine pn 10 22 (bz 23 2047) (by kernel_rfl) ?_
    refine pn 11 23 (bz 23 4095) (by kernel_rfl) ?_
    refine pn 12 24 (bz 23 8191) (by kernel_rfl) ?_
    refine pn 13 25 (bz 23 16383) (by kernel_rfl) ?_
    refine pn 14 26 (bz 23 32767) (by kernel_rfl) ?_
    refine pn 15 27 (bz 23 65535) (by kernel_rfl) ?_
    refine pn 16 28 (bz 23 131071) (by kernel_rfl) ?_
    refine pn 17 29 (bz 23 262143) (by kernel_rfl) ?_
    refine pn 18 30 (bz 23 524287) (by kernel_rfl) ?_
    refine pn 19 31 (bz 23 1048575) (by kernel_rfl) ?_
    refine pn 20 32 (bz 23 2097151) (by kernel_rfl) ?_
    refine pn 21 33 (bz 23 4194303) (by kernel_rfl) ?_
    refine pq 22 34 (bz 23 8388607) (by kernel_rfl) ?_
    refine done_ (by kernel_rfl) ?_
    go_wp2
    go_ret
    exact ⟨by rw [HG.out]; rfl, below_step (below_drew HB3.out) hb⟩
   | true =>
    rw [hm] at hM
    have HM := Aside0.mk hM
    clear hM
    cases he : (x.f1.toList == []) with
    | true =>
     have HG : Aside0 (rightB l = false) := ⟨by unfold rightB; rw [← hI]; unfold okL; rw [hm, he]; rfl⟩
     clear hI hd hx hxm hC hm HI
     go_wp2_with (fail)
     refine start_ (n := 23) (S := fun w' => w'.cell? ⟨wr.heap.size, 0, none⟩ = some (.string x.f0) ∧ w'.cell? ⟨wr.heap.size, 1, none⟩ = some (.string x.f1)) (ds := []) (bz 23 0) (by kernel_rfl) rfl rfl ⟨p0, p1⟩ (fun hHeld => ?_)
     refine tq 0 12 (bz 23 1) (by kernel_rfl) rfl rfl (by rintro w' ⟨s0, s1⟩; go_simp; with_reducible rfl) hHeld ?_
     refine one_ (i := 1) (N := some 13) (bz 23 3) rfl rfl (by kernel_rfl) (by decide) (fun K hK => ?_)
     refine goes_ Tryz.func39 (by kernel_rfl) rfl #[.agg #[.string x.f0, .string x.f1]] (by rfl) rfl rfl (by (try simp only [List.map_toArray, List.map_cons, List.map_nil]); first | done | rfl) ?_
     refine (HM.out _ (below_drew HB3.out)).mono ?_
     rintro e w12 ⟨rfl, hb⟩
     refine ⟨_, rfl, ?_⟩
     refine hK.out _ _ ⟨pw_cell_below hb p0, pw_cell_below hb p1⟩ (fun hHeld => ?_)
     clear hK K
     refine norm_ (show Act.put _ (some 13) _ = _ by simp only [pu, s0, s1, i64_w, i32_w]; rfl) ?_
     refine pq 2 14 (bz 23 7) (by kernel_rfl) ?_
     refine pq 3 15 (bz 23 15) (by kernel_rfl) ?_
     refine pq 4 16 (bz 23 31) (by kernel_rfl) ?_
     refine tq 5 17 (bz 23 63) (by kernel_rfl) rfl rfl (by rintro w' ⟨s0, s1⟩; go_simp; with_reducible rfl) hHeld ?_
     refine pq 6 18 (bz 23 127) (by kernel_rfl) ?_
     refine pq 7 19 (bz 23 255) (by kernel_rfl) ?_
     refine pq 8 20 (bz 23 511) (by kernel_rfl) ?_
     refine pn 9 21 (bz 23 1023) (by kernel_rfl) ?_
     refine pn 10 22 (bz 23 2047) (by kernel_rfl) ?_
     refine pn 11 23 (bz 23 4095) (by kernel_rfl) ?_
     refine pn 12 24 (bz 23 8191) (by kernel_rfl) ?_
     refine pn 13 25 (bz 23 16383) (by kernel_rfl) ?_
     refine pn 14 26 (bz 23 32767) (by kernel_rfl) ?_
     refine pn 15 27 (bz 23 65535) (by kernel_rfl) ?_
     refine pn 16 28 (bz 23 131071) (by kernel_rfl) ?_
     refine pn 17 29 (bz 23 262143) (by kernel_rfl) ?_
     refine pn 18 30 (bz 23 524287) (by kernel_rfl) ?_
     refine pn 19 31 (bz 23 1048575) (by kernel_rfl) ?_
     refine pn 20 32 (bz 23 2097151) (by kernel_rfl) ?_
     refine pn 21 33 (bz 23 4194303) (by kernel_rfl) ?_
     refine pq 22 34 (bz 23 8388607) (by kernel_rfl) ?_
     refine done_ (by kernel_rfl) ?_
     go_wp2
     go_ret
     exact ⟨by rw [HG.out]; rfl, below_step (below_drew HB3.out) hb⟩
    | false =>
     cases i with
     | zero =>
      have hI2 : (mayB x && !(x.f1.toList == []) && true && okL (some x.f0) (l.drop 1)) = okL none l := hI
      rw [hm, he] at hI2
      have HG : Aside0 (okL (some x.f0) (l.drop 1) = okL none l) := ⟨by simpa using hI2⟩
      clear hI2
      have HX2 : Aside0 (prevL l 1 = some x.f0) := ⟨by rw [hx]; rfl⟩
      have e0 : ad.add (0 * 2) = ad := by cases ad; simp [Addr.add]
      rw [e0] at y0 y1
      clear hI hd hx hxm hC hm HI e0
      go_wp2_with (fail)
      refine start_ (n := 23) (S := fun w' => w'.cell? ⟨wr.heap.size, 0, none⟩ = some (.string x.f0) ∧ w'.cell? ⟨wr.heap.size, 1, none⟩ = some (.string x.f1)) (ds := []) (bz 23 0) (by kernel_rfl) rfl rfl ⟨p0, p1⟩ (fun hHeld => ?_)
      refine tq 0 12 (bz 23 1) (by kernel_rfl) rfl rfl (by rintro w' ⟨s0, s1⟩; go_simp; with_reducible rfl) hHeld ?_
      refine one_ (i := 1) (N := some 13) (bz 23 3) rfl rfl (by kernel_rfl) (by decide) (fun K hK => ?_)
      refine goes_ Tryz.func39 (by kernel_rfl) rfl #[.agg #[.string x.f0, .string x.f1]] (by rfl) rfl rfl (by (try simp only [List.map_toArray, List.map_cons, List.map_nil]); first | done | rfl) ?_
      refine (HM.out _ (below_drew HB3.out)).mono ?_
      rintro e w12 ⟨rfl, hb⟩
      refine ⟨_, rfl, ?_⟩
      refine hK.out _ _ ⟨pw_cell_below hb p0, pw_cell_below hb p1⟩ (fun hHeld => ?_)
      clear hK K
      refine norm_ (show Act.put _ (some 13) _ = _ by simp only [pu, s0, s1, i64_w, i32_w]; rfl) ?_
      refine pq 2 14 (bz 23 7) (by kernel_rfl) ?_
      refine pq 3 15 (bz 23 15) (by kernel_rfl) ?_
      refine pq 4 16 (bz 23 31) (by kernel_rfl) ?_
      refine tq 5 17 (bz 23 63) (by kernel_rfl) rfl rfl (by rintro w' ⟨s0, s1⟩; go_simp; with_reducible rfl) hHeld ?_
      refine pq 6 18 (bz 23 127) (by kernel_rfl) ?_
      refine pq 7 19 (bz 23 255) (by kernel_rfl) ?_
      refine pq 8 20 (bz 23 511) (by kernel_rfl) ?_
      refine pq 9 21 (bz 23 1023) (by kernel_rfl) ?_
      refine pq 10 22 (bz 23 2047) (by kernel_rfl) ?_
      refine pq 11 23 (bz 23 4095) (by kernel_rfl) ?_
      refine pn 12 24 (bz 23 8191) (by kernel_rfl) ?_
      refine pn 13 25 (bz 23 16383) (by kernel_rfl) ?_
      refine pn 14 26 (bz 23 32767) (by kernel_rfl) ?_
      refine pn 15 27 (bz 23 65535) (by kernel_rfl) ?_
      refine pn 16 28 (bz 23 131071) (by kernel_rfl) ?_
      refine pn 17 29 (bz 23 262143) (by kernel_rfl) ?_
      refine pn 18 30 (bz 23 524287) (by kernel_rfl) ?_
      refine pn 19 31 (bz 23 1048575) (by kernel_rfl) ?_
      refine pn 20 32 (bz 23 2097151) (by kernel_rfl) ?_
      refine pq 21 33 (bz 23 4194303) (by kernel_rfl) ?_
      refine pq 22 34 (bz 23 8388607) (by kernel_rfl) ?_
      refine done_ (by kernel_rfl) ?_
      go_wp2
      go_roundw
      case rel => exact ⟨1, by go_num, by omega, ⟨by rw [HX2.out, HG.out]⟩, ⟨below_step (below_drew HB3.out) hb⟩⟩
      case measure => simp [intOf]; omega
     | succ j =>
      obtain ⟨ad2, eA2, y2, y3⟩ := at_T44 hC (j : Nat) (by omega) (by omega)
      obtain rfl := Option.some.inj eA2
      obtain ⟨y, hy⟩ : ∃ y, y = rd_T44 l (j : Nat) := ⟨_, rfl⟩
      rw [← hy] at y2
      simp only [Int.toNat_natCast] at y2
      have p2 : (wr.alloc (.cells #[.string x.f0, .string x.f1] 44)).drew.cell? (ad.add (j * 2)) = some (.string y.f0) := pw_cell_below (below_drew (below_alloc (Below.refl _ _) _)) y2
      have z1 : IntKind.i64.wrap (((j : Int) + 1) - 1) = (j : Int) := by rw [Int.add_sub_cancel]; exact IntWalk.i64_in _ (by omega)
      have z2 : IntKind.i64.wrap (j : Int) = (j : Int) := IntWalk.i64_in _ (by omega)
      have hj0 : (0 : Int) ≤ (j : Int) := by omega
      have hj1 : (j : Int) < (l.length : Int) := by omega
      have hj2 : (0 : Int) < (j : Int) + 1 := by omega
      have HX2 : Aside0 (prevL l (j + 1 + 1) = some x.f0) := ⟨by rw [hx]; rfl⟩
      have hPY : prevL l (j + 1) = some y.f0 := by rw [hy]; rfl
      rw [hPY] at hI
      have hI2 : (mayB x && !(x.f1.toList == []) && Op.bytesLess y.f0.toList x.f0.toList && okL (some x.f0) (l.drop (j + 1 + 1))) = okL none l := hI
      rw [hm, he] at hI2
      cases hq : Op.bytesLess y.f0.toList x.f0.toList with
      | false =>
       have HG : Aside0 (rightB l = false) := ⟨by unfold rightB; rw [← hI2, hq]; rfl⟩
       clear hI hI2 hd hx hxm hC hm HI hy eA2 y3 hPY
       go_wp2_with (fail)
       refine start_ (n := 23) (S := fun w' => w'.cell? ⟨wr.heap.size, 0, none⟩ = some (.string x.f0) ∧ w'.cell? ⟨wr.heap.size, 1, none⟩ = some (.string x.f1) ∧ w'.cell? (ad.add (j * 2)) = some (.string y.f0)) (ds := []) (bz 23 0) (by kernel_rfl) rfl rfl ⟨p0, p1, p2⟩ (fun hHeld => ?_)
       refine tq 0 12 (bz 23 1) (by kernel_rfl) rfl rfl (by rintro w' ⟨s0, s1, s2⟩; go_simp; with_reducible rfl) hHeld ?_
       refine one_ (i := 1) (N := some 13) (bz 23 3) rfl rfl (by kernel_rfl) (by decide) (fun K hK => ?_)
       refine goes_ Tryz.func39 (by kernel_rfl) rfl #[.agg #[.string x.f0, .string x.f1]] (by rfl) rfl rfl (by (try simp only [List.map_toArray, List.map_cons, List.map_nil]); first | done | rfl) ?_
       refine (HM.out _ (below_drew HB3.out)).mono ?_
       rintro e w12 ⟨rfl, hb⟩
       refine ⟨_, rfl, ?_⟩
       refine hK.out _ _ ⟨pw_cell_below hb p0, pw_cell_below hb p1, pw_cell_below hb p2⟩ (fun hHeld => ?_)
       clear hK K
       refine norm_ (show Act.put _ (some 13) _ = _ by simp only [pu, s0, s1, i64_w, i32_w]; rfl) ?_
       refine pq 2 14 (bz 23 7) (by kernel_rfl) ?_
       refine pq 3 15 (bz 23 15) (by kernel_rfl) ?_
       refine pq 4 16 (bz 23 31) (by kernel_rfl) ?_
       refine tq 5 17 (bz 23 63) (by kernel_rfl) rfl rfl (by rintro w' ⟨s0, s1, s2⟩; go_simp; with_reducible rfl) hHeld ?_
       refine pq 6 18 (bz 23 127) (by kernel_rfl) ?_
       refine pq 7 19 (bz 23 255) (by kernel_rfl) ?_
       refine pq 8 20 (bz 23 511) (by kernel_rfl) ?_
       refine pq 9 21 (bz 23 1023) (by kernel_rfl) ?_
       refine pq 10 22 (bz 23 2047) (by kernel_rfl) ?_
       refine pq 11 23 (bz 23 4095) (by kernel_rfl) ?_
       refine pq 12 24 (bz 23 8191) (by kernel_rfl) ?_
       refine pq 13 25 (bz 23 16383) (by kernel_rfl) ?_
       refine pq 14 26 (bz 23 32767) (by kernel_rfl) ?_
       refine pq 15 27 (bz 23 65535) (by kernel_rfl) ?_
       refine pq 16 28 (bz 23 131071) (by kernel_rfl) ?_
       refine tq 17 29 (bz 23 262143) (by kernel_rfl) rfl rfl (by rintro w' ⟨s0, s1, s2⟩; go_simp; with_reducible rfl) hHeld ?_
       refine pq 18 30 (bz 23 524287) (by kernel_rfl) ?_
       refine tq 19 31 (bz 23 1048575) (by kernel_rfl) rfl rfl (by rintro w' ⟨s0, s1, s2⟩; go_simp; with_reducible rfl) hHeld ?_
       refine pq 20 32 (bz 23 2097151) (by kernel_rfl) ?_
       refine pq 21 33 (bz 23 4194303) (by kernel_rfl) ?_
       refine pq 22 34 (bz 23 8388607) (by kernel_rfl) ?_
       refine done_ (by kernel_rfl) ?_
       go_wp2
       go_ret
       exact ⟨by rw [HG.out]; rfl, below_step (below_drew HB3.out) hb⟩
      | true =>
       have HG : Aside0 (okL (some x.f0) (l.drop (j + 1 + 1)) = okL none l) := ⟨by rw [← hI2, hq]; simp⟩
       clear hI hI2 hd hx hxm hC hm HI hy eA2 y3 hPY
       go_wp2_with (fail)
       refine start_ (n := 23) (S := fun w' => w'.cell? ⟨wr.heap.size, 0, none⟩ = some (.string x.f0) ∧ w'.cell? ⟨wr.heap.size, 1, none⟩ = some (.string x.f1) ∧ w'.cell? (ad.add (j * 2)) = some (.string y.f0)) (ds := []) (bz 23 0) (by kernel_rfl) rfl rfl ⟨p0, p1, p2⟩ (fun hHeld => ?_)
       refine tq 0 12 (bz 23 1) (by kernel_rfl) rfl rfl (by rintro w' ⟨s0, s1, s2⟩; go_simp; with_reducible rfl) hHeld ?_
       refine one_ (i := 1) (N := some 13) (bz 23 3) rfl rfl (by kernel_rfl) (by decide) (fun K hK => ?_)
       refine goes_ Tryz.func39 (by kernel_rfl) rfl #[.agg #[.string x.f0, .string x.f1]] (by rfl) rfl rfl (by (try simp only [List.map_toArray, List.map_cons, List.map_nil]); first | done | rfl) ?_
       refine (HM.out _ (below_drew HB3.out)).mono ?_
       rintro e w12 ⟨rfl, hb⟩
       refine ⟨_, rfl, ?_⟩
       refine hK.out _ _ ⟨pw_cell_below hb p0, pw_cell_below hb p1, pw_cell_below hb p2⟩ (fun hHeld => ?_)
       clear hK K
       refine norm_ (show Act.put _ (some 13) _ = _ by simp only [pu, s0, s1, i64_w, i32_w]; rfl) ?_
       refine pq 2 14 (bz 23 7) (by kernel_rfl) ?_
       refine pq 3 15 (bz 23 15) (by kernel_rfl) ?_
       refine pq 4 16 (bz 23 31) (by kernel_rfl) ?_
       refine tq 5 17 (bz 23 63) (by kernel_rfl) rfl rfl (by rintro w' ⟨s0, s1, s2⟩; go_simp; with_reducible rfl) hHeld ?_
       refine pq 6 18 (bz 23 127) (by kernel_rfl) ?_
       refine pq 7 19 (bz 23 255) (by kernel_rfl) ?_
       refine pq 8 20 (bz 23 511) (by kernel_rfl) ?_
       refine pq 9 21 (bz 23 1023) (by kernel_rfl) ?_
       refine pq 10 22 (bz 23 2047) (by kernel_rfl) ?_
       refine pq 11 23 (bz 23 4095) (by kernel_rfl) ?_
       refine pq 12 24 (bz 23 8191) (by kernel_rfl) ?_
       refine pq 13 25 (bz 23 16383) (by kernel_rfl) ?_
       refine pq 14 26 (bz 23 32767) (by kernel_rfl) ?_
       refine pq 15 27 (bz 23 65535) (by kernel_rfl) ?_
       refine pq 16 28 (bz 23 131071) (by kernel_rfl) ?_
       refine tq 17 29 (bz 23 262143) (by kernel_rfl) rfl rfl (by rintro w' ⟨s0, s1, s2⟩; go_simp; with_reducible rfl) hHeld ?_
       refine pq 18 30 (bz 23 524287) (by kernel_rfl) ?_
       refine tq 19 31 (bz 23 1048575) (by kernel_rfl) rfl rfl (by rintro w' ⟨s0, s1, s2⟩; go_simp; with_reducible rfl) hHeld ?_
       refine pq 20 32 (bz 23 2097151) (by kernel_rfl) ?_
       refine pq 21 33 (bz 23 4194303) (by kernel_rfl) ?_
       refine pq 22 34 (bz 23 8388607) (by kernel_rfl) ?_
       refine done_ (by kernel_rfl) ?_
       go_wp2
       go_roundw
       case rel => exact ⟨j + 1 + 1, by go_num, by omega, ⟨by rw [HX2.out, HG.out]⟩, ⟨below_step (below_drew HB3.out) hb⟩⟩
       case measure => simp [intOf]; omega
  ·obtain rfl : i = l.length := by omega
   have hG : okL none l = true := by rw [← HI.out, List.drop_length]; unfold okL; rfl
   have HG : Aside0 (rightB l = decide ((l.length : Int) ≤ 16)) := ⟨by unfold rightB; rw [hG, Bool.true_and]; apply decide_eq_decide.mpr; omega⟩
   clear hG HI
   go_wp2
   go_ret
   exact ⟨by rw [HG.out]; simp, HB1.out⟩
end Go.Proofs.YtfbockgjhbfidaaGreatDoor.Pr
