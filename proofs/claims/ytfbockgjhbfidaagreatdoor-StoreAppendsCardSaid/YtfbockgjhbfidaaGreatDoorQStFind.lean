/- Texts of this session, cut down to what one claim needs and joined: StFind. -/
import Derived.Test.YtfbockgjhbfidaaGreatDoorQStPlain
import Derived.Test.YtfbockgjhbfidaaGreatDoorQStIdx
set_option linter.unusedVariables false
set_option linter.unusedSimpArgs false
namespace Go.Proofs.YtfbockgjhbfidaaGreatDoor.Pr
open Go.RowKit Go.Proofs.YtfbockgjhbfidaaGreatDoorW.PrintWords Go.Proofs.YtfbockgjhbfidaaGreatDoorW.PrintLast Go.Proofs.YtfbockgjhbfidaaGreatDoorW.PrintMore

set_option maxHeartbeats 4000000 in
theorem find1_any (x : S47) (l : List S44) (g : Nat) (A1 : Option Addr) (c1 : Nat) (A2 : Option Addr) (c2 : Nat) (A3 : Option Addr) (c3 : Nat) (w : World) (hg : w.cell? ⟨g, 0, none⟩ = some (.slice A3 l.length c3)) (h1 : Kd.C k44 w A1 x.f0.length x.f0) (h3 : Kd.C k44 w A3 l.length l) (b1 : x.f0.length ≤ 9223372036854775807) (b3 : l.length ≤ 9223372036854775807) :
  Calls Tryz.prog 27 #[.agg #[.slice A1 x.f0.length c1, .slice A2 x.f1.length c2], .pointer (some ⟨g, 0, none⟩)] w fun e w' => e = .returned (.bool (eqP l x)) ∧ Below w.heap.size w w' := by
 have HC := Aside0.mk (fun w' (hb' : Below w.heap.size w w') => cmp_any A1 c1 x.f0 A3 c3 l w' (Kd.C_below h1 hb') (Kd.C_below h3 hb') b1 b3)
 have hlt := World.block_lt_of_cell? w _ hg
 have hne : ¬ w.heap.size = g := by simp at hlt; omega
 have hne2 : ¬ g = w.heap.size := by simp at hlt; omega
 clear h1 h3 b1 b3
 unfold eqP
 generalize cmpLs x.f0 l = q at *
 generalize x.f0.length = n1 at *
 generalize x.f1.length = n2 at *
 generalize l.length = n3 at *
 go_enter Tryz.func27, Tryz.ntmps27
 go_wp2_with (go_at_call 28; refine (HC.out _ (by repeat (first | exact Below.refl _ _ | apply below_alloc | apply pw_below_drewN | apply below_drew1))).mono ?_; rintro e w' ⟨rfl, hb⟩)
 go_ret
 exact ⟨rfl, below_step (by repeat (first | exact Below.refl _ _ | apply below_alloc | apply pw_below_drewN | apply below_drew1)) hb⟩

set_option maxHeartbeats 4000000 in
set_option maxRecDepth 100000 in
theorem find_any (A0 : Option Addr) (c0 : Nat) (s : List S47) (A1 : Option Addr) (c1 : Nat) (l : List S44) (w : World) (hL : LaidAll w) (hr0 : Kd.C k47 w A0 s.length s) (hc0 : s.length ≤ c0) (hr1 : Kd.C k44 w A1 l.length l) (hc1 : l.length ≤ c1) (ho : okS s) (hl : l.length ≤ 1000000) :
  Calls Tryz.prog 10 #[.slice A0 s.length c0, .slice A1 l.length c1] w fun e w' => e = .returned (.tuple #[.int .i64 (findV s l).1, .bool (findV s l).2]) ∧ Below w.heap.size w w' := by
 obtain ⟨w0, hw0⟩ : ∃ w0, w0 = (w.alloc (.cells #[.slice A1 l.length c1] 23)).alloc (.cells #[.slice A0 s.length c0, .slice A1 l.length c1] 58) := ⟨_, rfl⟩
 have hb0 : Below w.heap.size w w0 := by rw [hw0]; exact below_alloc (below_alloc (Below.refl _ _) _) _
 have hg : w0.cell? ⟨w.heap.size, 0, none⟩ = some (.slice A1 l.length c1) := by rw [hw0]; go_simp
 have hs0 : w0.cell? ⟨w.heap.size + 1, 0, none⟩ = some (.slice A0 s.length c0) := by rw [hw0]; go_simp
 have hs1 : w0.cell? ⟨w.heap.size + 1, 1, none⟩ = some (.slice A1 l.length c1) := by rw [hw0]; go_simp
 have HI := Aside0.mk (indexFunc_St (eqP l) 27 #[.pointer (some ⟨w.heap.size, 0, none⟩)] w0.heap.size w0 w0 (Below.refl _ _) (Nat.le_refl _) A0 c0 s (Kd.C_below hr0 hb0) (by have := ho.1; omega) (enters_of Tryz.func27 (by kernel_rfl) rfl)
  (fun x B1 d1 B2 d2 w1 hb1 hd hC => by
   by_cases hx : x.f0.length ≤ 9223372036854775807
   ·exact find1_any x l w.heap.size B1 d1 B2 d2 A1 c1 w1 (pw_cell_below hb1 hg) hC (Kd.C_below (Kd.C_below hr1 hb0) hb1) hx (by omega)
   ·exact absurd hC.2.1 hx))
 have hRt := rightS_some s ho
 have HR := Aside0.mk (fun w1 (hb1 : Below w0.heap.size w0 w1) => store_Right.calls (s.length + 1000003) A0 c0 s _ w1 ⟨(hL.below hb0).below hb1⟩ (Kd.C_below (Kd.C_below hr0 hb0) hb1) hc0 hRt)
 have HQ := Aside0.mk (fun (i : Nat) (hi : i < s.length) w1 (hb1 : Below w0.heap.size w0 w1) => store_search_reached.calls A0 c0 s A1 c1 l (i : Int) (decide (cmpLs (s[i]).f0 l ≥ 0)) w1 ⟨(hL.below hb0).below hb1⟩ (Kd.C_below (Kd.C_below hr0 hb0) hb1) hc0 (Kd.C_below (Kd.C_below hr1 hb0) hb1) hc1 (by
  have hx := (ho.2 s[i] (List.getElem_mem hi)).1.1
  unfold store_search_reached.f
  rw [if_pos (by omega), if_pos (by omega), rdX_at s i hi, labCmp_some _ _ (by omega) (by omega)]
  rfl))
 have HB0 := Aside0.mk hb0
 have HG0 := Aside0.mk hs0
 have HG1 := Aside0.mk hs1
 have hsl : s.length ≤ 1000000 := ho.1
 have HO := Aside0.mk ho
 have HHG := Aside0.mk hg
 clear hL hr0 hr1 hc0 hc1 ho hRt hb0 hs0 hs1 hg hl
 obtain ⟨n0, hn0⟩ : ∃ n, n = s.length := ⟨_, rfl⟩
 obtain ⟨n1, hn1⟩ : ∃ n, n = l.length := ⟨_, rfl⟩
 cases hk : firstFrom (eqP l) s 0 with
 | some i =>
  have hfo : firstOf (eqP l) s = (i : Int) := by unfold firstOf; rw [hk]
  have hfv : findV s l = ((i : Int), true) := by unfold findV; rw [hk]
  rw [hfo] at HI
  rw [hfv]
  have hpos : (0 : Int) ≤ (i : Int) := by omega
  clear hk hfo hfv
  go_enter Tryz.func10, Tryz.ntmps10
  go_wp2_with (go_at_call 26; rw [← hw0]; refine HI.out.mono ?_; rintro e w1 ⟨rfl, hb1⟩)
  go_ret2
  exact ⟨rfl, below_step HB0.out hb1⟩
 | none =>
  have hfo : firstOf (eqP l) s = -1 := by unfold firstOf; rw [hk]
  have hfv : findV s l = (((lessN s l : Nat) : Int), false) := by unfold findV; rw [hk]
  rw [hfo] at HI
  rw [hfv]
  clear hk hfo hfv
  by_cases hr : RightP s
  ·rw [decide_eq_true hr] at HR
   have HS := Aside0.mk (fun w1 (hb1 : Below w0.heap.size w0 w1) => search_anyP 30 #[.agg #[.slice A0 s.length c0, .slice A1 l.length c1]] #[] w0.heap.size w0 w1 hb1 hb1.size s.length (lessN s l) (less_le s l) (by omega) (enters_of Tryz.func30 (by kernel_rfl) rfl)
    (fun i w2 hi hb2 => by rw [← reached_iff s l hr.2 i hi]; exact HQ.out i hi w2 hb2))
   clear hr
   go_enter Tryz.func10, Tryz.ntmps10
   go_wp2_with (first
    | (go_at_call 26; rw [← hw0]; refine HI.out.mono ?_; rintro e w1 ⟨rfl, hb1⟩; have HB1 := Aside0.mk hb1; have hs0 := pw_cell_below hb1 HG0.out; have hs1 := pw_cell_below hb1 HG1.out; clear hb1)
    | (go_at_call 14; refine (HR.out w1 HB1.out).mono ?_; rintro e w2 ⟨rfl, hb2⟩; have HB2 := Aside0.mk (below_step HB1.out hb2); replace hs0 := pw_cell_below hb2 hs0; replace hs1 := pw_cell_below hb2 hs1; clear hb2)
    | (go_at_call 29; refine (HS.out w2 HB2.out).mono ?_; rintro e w3 ⟨rfl, hb3⟩; have HB3 := Aside0.mk (below_step HB2.out hb3); clear hb3))
   go_ret2
   exact ⟨rfl, below_step HB0.out HB3.out⟩
  ·rw [decide_eq_false hr] at HR
   clear hr
   go_enter Tryz.func10, Tryz.ntmps10
   go_wp2_with (first
    | (go_at_call 26; rw [← hw0]; refine HI.out.mono ?_; rintro e w1 ⟨rfl, hb1⟩; have HB1 := Aside0.mk hb1; have hs0 := pw_cell_below hb1 HG0.out; have hs1 := pw_cell_below hb1 HG1.out; clear hb1)
    | (go_at_call 14; refine (HR.out w1 HB1.out).mono ?_; rintro e w2 ⟨rfl, hb2⟩; have HB2 := Aside0.mk (below_step HB1.out hb2); replace hs0 := pw_cell_below hb2 hs0; replace hs1 := pw_cell_below hb2 hs1; clear hb2))
   have HS0 := Aside0.mk hs0
   have HS1 := Aside0.mk hs1
   clear hs0 hs1
   go_loopw [7] (fun v7 w' => ∃ (i : Nat), v7 = .int .i64 i ∧ i ≤ s.length ∧ Aside0 (i ≤ lessN s l) ∧ Aside0 (Below w2.heap.size w2 w')) (fun v7 _ => s.length - (intOf v7).toNat)
   case atStart => exact ⟨0, rfl, Nat.zero_le _, ⟨Nat.zero_le _⟩, ⟨Below.refl _ _⟩⟩
   case round =>
    obtain ⟨i, rfl, hil, HLE, HBi⟩ := hrel
    by_cases hlt : i < s.length
    ·have hs0 := pw_cell_below HBi.out HS0.out
     have hs1 := pw_cell_below HBi.out HS1.out
     have hcall := HQ.out i hlt wr (below_then HB2.out HB2.out.size HBi.out)
     by_cases hq : cmpLs (s[i]).f0 l ≥ 0
     ·rw [decide_eq_true hq] at hcall
      have HE := Aside0.mk (show i = lessN s l by
       by_cases h : i < lessN s l
       ·have := of_decide_eq_true (tw_lt (fun x : S47 => decide (cmpLs x.f0 l < 0)) s i hlt h)
        omega
       ·have := HLE.out; omega)
      clear hq
      go_wp2_with (go_at_call 30; refine hcall.mono ?_; rintro e w3 ⟨rfl, hb3⟩)
      go_ret2
      exact ⟨by rw [HE.out]; rfl, below_step HB0.out (below_then HB2.out HB2.out.size (below_then HBi.out HBi.out.size hb3))⟩
     ·rw [decide_eq_false hq] at hcall
      have HE := Aside0.mk (show i + 1 ≤ lessN s l by
       by_cases h : i = lessN s l
       ·have h0 : (s.takeWhile fun x => decide (cmpLs x.f0 l < 0)).length < s.length := by unfold lessN at h; omega
        have h1 := of_decide_eq_false (tw_at (fun x : S47 => decide (cmpLs x.f0 l < 0)) s h0)
        have e : s[(s.takeWhile fun x => decide (cmpLs x.f0 l < 0)).length]'h0 = s[i] := by congr 1; exact h.symm
        rw [e] at h1
        omega
       ·have := HLE.out; omega)
      clear hq
      go_wp2_with (go_at_call 30; refine hcall.mono ?_; rintro e w3 ⟨rfl, hb3⟩)
      go_roundw
      case rel => exact ⟨i + 1, by go_num, by omega, HE, ⟨below_then HBi.out HBi.out.size hb3⟩⟩
      case measure => simp [intOf]; omega
    ·have HE := Aside0.mk (show i = lessN s l by have := HLE.out; have := less_le s l; omega)
     have hge : s.length ≤ i := by omega
     clear hlt
     go_wp2
     go_ret2
     exact ⟨by rw [HE.out]; rfl, below_step HB0.out (below_then HB2.out HB2.out.size HBi.out)⟩
end Go.Proofs.YtfbockgjhbfidaaGreatDoor.Pr
