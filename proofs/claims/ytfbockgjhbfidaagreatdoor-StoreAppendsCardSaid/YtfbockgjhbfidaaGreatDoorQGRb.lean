/- Texts of this session, cut down to what one claim needs and joined: StRefR, StRefB. -/
import Derived.Test.YtfbockgjhbfidaaGreatDoorQGRf
import Derived.Test.YtfbockgjhbfidaaGreatDoorQPrSoundingsref05Right
import Derived.Test.YtfbockgjhbfidaaGreatDoorQLbPureT
import Derived.Test.YtfbockgjhbfidaaGreatDoorQStApp4
section
set_option linter.unusedVariables false
set_option linter.unusedSimpArgs false
namespace Go.Proofs.YtfbockgjhbfidaaGreatDoor.Pr
open Go.RowKit Go.Proofs.Fl Go.Proofs.YtfbockgjhbfidaaGreatDoorW.PrintWords

def u64P (v : Int) : Prop := 0 ≤ v ∧ v < 18446744073709551616
theorem u64_wf {v : Int} (h : (Lit.int .u64 v).wf = true) : u64P v := by
 have h2 : IntKind.u64.min ≤ v ∧ v ≤ IntKind.u64.max := by simpa [Lit.wf] using h
 have e1 : IntKind.u64.min = 0 := rfl
 have e2 : IntKind.u64.max = 18446744073709551615 := rfl
 unfold u64P
 omega
theorem isNone_some (v : Int) (h : u64P v) : soundingsref04_IsNone.f v = some (isN v.toNat) := by
 unfold u64P at h
 rw [isN_iff]
 unfold soundingsref04_IsNone.f
 have e1 : Int.tdiv v 4503599627370496 = v / 4503599627370496 := Int.tdiv_eq_ediv_of_nonneg h.1
 have e2 : IntKind.u64.wrap (v / 4503599627370496) = v / 4503599627370496 := by show (v / 4503599627370496) % 18446744073709551616 = _; omega
 have e3 : Int.tmod (v / 4503599627370496) 2048 = v / 4503599627370496 % 2048 := Int.tmod_eq_emod_of_nonneg (by omega)
 have e4 : Int.tmod v 4503599627370496 = v % 4503599627370496 := Int.tmod_eq_emod_of_nonneg h.1
 rw [e1, e2, e3, e4]
 have p1 : (2 : Nat) ^ 52 = 4503599627370496 := by decide
 have p2 : (2 : Nat) ^ 63 = 9223372036854775808 := by decide
 rw [p1, p2]
 by_cases c : v / 4503599627370496 % 2048 = 2047
 ·rw [if_pos c]
  congr 1
  by_cases d : v % 4503599627370496 = 0
  ·rw [d, decide_eq_false (by omega)]; rfl
  ·rw [decide_eq_true (by omega), bne_iff_ne]; exact d
 ·rw [if_neg c, decide_eq_false (by omega)]
theorem refNorm_some (v : Int) (h : u64P v) : soundingsref04_Norm.f v = some (normI v) := by
 unfold soundingsref04_Norm.f normI
 rw [isNone_some v h, Option.bind_some]
 by_cases c : isN v.toNat = true
 ·rw [if_pos c]
  by_cases d : v = 9218868437227405314
  ·rw [if_pos d, if_neg (fun h => h.2 d)]
  ·rw [if_neg d, if_pos ⟨c, d⟩]
 ·rw [if_neg c, if_neg (fun h => c h.1)]
theorem cmpLs_one (a b : Lbs) : cmpLs a b = 1 ↔ cmpLs b a < 0 := by
 rw [cmpLs_neg b a]
 have := cmpLs_range b a
 omega
def ptsOk (l : List S26) : Prop := (∀ p ∈ l, OnePt p) ∧ Up l
instance (l : List S26) : Decidable (ptsOk l) := by unfold ptsOk; infer_instance
def tailE (k : Nat) (s : List Ser) (x3 : Int) : Option Bool := (if x3 > 0 then (if 0 ≤ x3 then (if x3 < (s.length : Int) then (if 0 ≤ (wrap64 (x3 - 1)) then (if (wrap64 (x3 - 1)) < (s.length : Int) then ((soundingsref01_Cmp.f k ((rd_T47 s x3).f0) ((rd_T47 s (wrap64 (x3 - 1))).f0)).bind fun t203 => (if t203 = 1 then (soundingsref05_Right.l0 k s (wrap64 (x3 + 1))) else (some false))) else (none)) else (none)) else (none)) else (none)) else (soundingsref05_Right.l0 k s (wrap64 (x3 + 1))))
theorem right05_l1 (s : List Ser) (i : Int) (b : Bool) (K : Nat) (pts : List S26) (htail : ptsOk pts → ∀ k, K ≤ k → tailE k s i = some b) (hb : pts.length ≤ 1000000) (hw : ∀ p ∈ pts, u64P p.f1) : ∀ (d j k : Nat), j + d = pts.length → K + d < k → (∀ p ∈ pts.take j, OnePt p) → Up (pts.take j) → soundingsref05_Right.l1 k s i pts (j : Int) = some (decide (ptsOk pts) && b)
 | 0, j, k, hj, hk, hm, hu => by
  obtain ⟨k, rfl⟩ : ∃ n, k = n + 1 := ⟨k - 1, by omega⟩
  rw [List.take_of_length_le (by omega)] at hm hu
  rw [soundingsref05_Right.l1, if_neg (by omega)]
  refine (show _ = _ from htail ⟨hm, hu⟩ k (by omega)).trans ?_
  rw [decide_eq_true (show ptsOk pts from ⟨hm, hu⟩)]
  rfl
 | d + 1, j, k, hj, hk, hm, hu => by
  obtain ⟨k, rfl⟩ : ∃ n, k = n + 1 := ⟨k - 1, by omega⟩
  have hlt : j < pts.length := by omega
  have hw1 : wrap64 ((j : Int) + 1) = ((j + 1 : Nat) : Int) := by unfold wrap64; omega
  have hno : ∀ {c : Bool}, ¬ ptsOk pts → some false = some (decide (ptsOk pts) && c) := fun h => by rw [decide_eq_false h]; rfl
  rw [soundingsref05_Right.l1, if_pos (by omega), if_pos (by omega), rdP_at pts j hlt]
  by_cases h1 : (pts[j]).f0 < -1125899906842624
  ·rw [if_pos h1]
   exact hno (fun h => by have := (h.1 _ (List.getElem_mem hlt)).1.1; omega)
  ·rw [if_neg h1]
   by_cases h2 : (pts[j]).f0 > 1125899906842624
   ·rw [if_pos h2]
    exact hno (fun h => by have := (h.1 _ (List.getElem_mem hlt)).1.2; omega)
   ·rw [if_neg h2, refNorm_some _ (hw _ (List.getElem_mem hlt)), Option.bind_some]
    by_cases h3 : normI (pts[j]).f1 = (pts[j]).f1
    ·rw [if_pos h3]
     have hm2 := mem_step pts j hlt hm (P := OnePt) ⟨⟨by omega, by omega⟩, h3⟩
     by_cases h0 : j = 0
     ·rw [if_neg (by omega), hw1]
      exact right05_l1 s i b K pts htail hb hw d (j + 1) k (by omega) (by omega) hm2 (pair_step (fun p q : S26 => p.f0 < q.f0) (fun x y z h h' => Int.lt_trans h h') pts j hlt hu (fun j e => by omega))
     ·obtain ⟨q, rfl⟩ : ∃ q, j = q + 1 := ⟨j - 1, by omega⟩
      have hq : q < pts.length := by omega
      have hw2 : wrap64 (((q + 1 : Nat) : Int) - 1) = (q : Int) := by unfold wrap64; omega
      rw [if_pos (by omega), hw2, if_pos (by omega), if_pos (by omega), rdP_at pts q hq]
      by_cases h4 : (pts[q + 1]).f0 ≤ (pts[q]).f0
      ·rw [if_pos h4]
       exact hno (fun h => by have := List.pairwise_iff_getElem.1 h.2 q (q + 1) hq hlt (by omega); omega)
      ·rw [if_neg h4, hw1]
       exact right05_l1 s i b K pts htail hb hw d (q + 1 + 1) k (by omega) (by omega) hm2 (pair_step (fun p q : S26 => p.f0 < q.f0) (fun x y z h h' => Int.lt_trans h h') pts (q + 1) hlt hu (fun j e hj => by
        obtain rfl : q = j := by omega
        omega))
    ·rw [if_neg h3]
     exact hno (fun h => h3 (h.1 _ (List.getElem_mem hlt)).2)
structure Bnd where
 B : Nat → Nat
 up : ∀ d, B (d + 1) = B d + 3000000
 lo : ∀ d, 3000000 ≤ B d
theorem right05_l0 (BB : Bnd) (s : List Ser) (ho : okS s) (hr : ∀ x ∈ s, smallR x.f0) (hw : ∀ x ∈ s, ∀ p ∈ x.f1, u64P p.f1) : ∀ (d i k : Nat), i + d = s.length → BB.B d < k → (∀ x ∈ s.take i, OneSer x) → AscS (s.take i) → soundingsref05_Right.l0 k s (i : Int) = some (decide (RightP s))
 | 0, i, k, hi, hk, hm, hu => by
  have hbl2 := BB.lo 0
  obtain ⟨k, rfl⟩ : ∃ n, k = n + 1 := ⟨k - 1, by omega⟩
  rw [List.take_of_length_le (by omega)] at hm hu
  rw [soundingsref05_Right.l0, if_neg (by omega), decide_eq_true (show RightP s from ⟨hm, hu⟩)]
 | d + 1, i, k, hi, hk, hm, hu => by
  have hbl2 := BB.lo (d + 1)
  obtain ⟨k, rfl⟩ : ∃ n, k = n + 2 := ⟨k - 2, by omega⟩
  have hlt : i < s.length := by omega
  have h1 := ho.1
  have hbu := BB.up d
  have hbl := BB.lo d
  have hxm := List.getElem_mem hlt
  obtain ⟨⟨hx, _⟩, hp⟩ := ho.2 s[i] hxm
  have hw1 : wrap64 ((i : Int) + 1) = ((i + 1 : Nat) : Int) := by unfold wrap64; omega
  have hno : ¬ OneSer s[i] → some false = some (decide (RightP s)) := fun h => by rw [decide_eq_false (fun h2 : RightP s => h (h2.1 _ hxm))]
  have hlast : ∀ (b : Bool), (OneSer s[i] → ∀ n, BB.B d + 1 ≤ n → tailE n s (i : Int) = some b) → (OneSer s[i] → b = decide (RightP s)) → 0 < (s[i]).f1.length → 0 < (s[i]).f0.length → rightB (s[i]).f0 = true → soundingsref05_Right.l1 k s (i : Int) (s[i]).f1 0 = some (decide (RightP s)) := by
   intro b hb hbe g1 g2 g3
   have h2 := right05_l1 s (i : Int) b (BB.B d + 1) (s[i]).f1 (fun c => hb ⟨g2, g3, g1, c.1, c.2⟩) hp (hw _ hxm) (s[i]).f1.length 0 k (by omega) (by omega) (fun _ h => by cases h) List.Pairwise.nil
   refine (show _ = _ from h2).trans ?_
   by_cases c : ptsOk (s[i]).f1
   ·rw [decide_eq_true c, Bool.true_and, hbe ⟨g2, g3, g1, c.1, c.2⟩]
   ·rw [decide_eq_false c, Bool.false_and, decide_eq_false (fun h2 : RightP s => c ⟨(h2.1 _ hxm).2.2.2.1, (h2.1 _ hxm).2.2.2.2⟩)]
  rw [soundingsref05_Right.l0, if_pos (by omega), if_pos (by omega), rdX_at s i hlt, refRight_some (hr _ hxm), Option.bind_some]
  cases hR : rightB (s[i]).f0 with
  | false =>
   rw [if_neg (by decide), soundingsref05_Right.j1, if_pos rfl]
   exact hno (fun h => by rw [h.2.1] at hR; cases hR)
  | true =>
   rw [if_pos rfl]
   by_cases h0 : ((s[i]).f0.length : Int) = 0
   ·rw [if_pos h0, soundingsref05_Right.j1, if_pos rfl]
    exact hno (fun h => by have := h.1; omega)
   ·rw [if_neg h0, soundingsref05_Right.j1]
    by_cases h2 : (s[i]).f1.length = 0
    ·rw [if_pos (by rw [h2]; rfl)]
     exact hno (fun h => by have := h.2.2.1; omega)
    ·rw [if_neg (by rw [beq_iff_eq]; omega)]
     by_cases hz : i = 0
     ·subst hz
      refine hlast (decide (RightP s)) (fun hone n hn => ?_) (fun _ => rfl) (by omega) (by omega) hR
      unfold tailE
      rw [if_neg (by omega), hw1]
      exact right05_l0 BB s ho hr hw d (0 + 1) n (by omega) (by omega) (mem_step s 0 hlt hm hone) (pair_step (fun x y : Ser => cmpLs x.f0 y.f0 < 0) (fun x y z h h' => cmpLs_lt_trans h (Int.le_of_lt h')) s 0 hlt hu (fun j e => by omega))
     ·obtain ⟨q, rfl⟩ : ∃ q, i = q + 1 := ⟨i - 1, by omega⟩
      have hq : q < s.length := by omega
      have hw2 : wrap64 (((q + 1 : Nat) : Int) - 1) = (q : Int) := by unfold wrap64; omega
      have hxq := (ho.2 s[q] (List.getElem_mem hq)).1.1
      by_cases h4 : cmpLs (s[q + 1]).f0 (s[q]).f0 = 1
      ·refine hlast (decide (RightP s)) (fun hone n hn => ?_) (fun _ => rfl) (by omega) (by omega) hR
       unfold tailE
       rw [if_pos (by omega), if_pos (by omega), if_pos (by omega), hw2, if_pos (by omega), if_pos (by omega), rdX_at s (q + 1) hlt, rdX_at s q hq, refCmp_some _ _ (by omega) (by omega) n (by omega), Option.bind_some, if_pos h4, hw1]
       exact right05_l0 BB s ho hr hw d (q + 1 + 1) n (by omega) (by omega) (mem_step s (q + 1) hlt hm hone) (pair_step (fun x y : Ser => cmpLs x.f0 y.f0 < 0) (fun x y z h h' => cmpLs_lt_trans h (Int.le_of_lt h')) s (q + 1) hlt hu (fun j e hj => by
        obtain rfl : q = j := by omega
        exact (cmpLs_one _ _).1 h4))
      ·refine hlast false (fun hone n hn => ?_) (fun _ => ?_) (by omega) (by omega) hR
       ·unfold tailE
        rw [if_pos (by omega), if_pos (by omega), if_pos (by omega), hw2, if_pos (by omega), if_pos (by omega), rdX_at s (q + 1) hlt, rdX_at s q hq, refCmp_some _ _ (by omega) (by omega) n (by omega), Option.bind_some, if_neg h4]
       ·rw [decide_eq_false]
        exact fun h2 : RightP s => h4 ((cmpLs_one _ _).2 (List.pairwise_iff_getElem.1 h2.2 q (q + 1) hq hlt (by omega)))
theorem bnd_ex : ∃ B : Bnd, True := ⟨⟨fun d => d * 3000000 + 3000000, fun d => by omega, fun d => by omega⟩, trivial⟩
theorem refRight05_some (s : List Ser) (ho : okS s) (hr : ∀ x ∈ s, smallR x.f0) (hw : ∀ x ∈ s, ∀ p ∈ x.f1, u64P p.f1) : ∃ k, soundingsref05_Right.f k s = some (decide (RightP s)) := by
 obtain ⟨BB, _⟩ := bnd_ex
 exact ⟨BB.B s.length + 1, right05_l0 BB s ho hr hw s.length 0 _ (by omega) (by omega) (fun _ h => by cases h) List.Pairwise.nil⟩
end Go.Proofs.YtfbockgjhbfidaaGreatDoor.Pr
end

section
set_option linter.unusedVariables false
set_option linter.unusedSimpArgs false
namespace Go.Proofs.YtfbockgjhbfidaaGreatDoor.Pr
open Go.RowKit Go.Proofs.Fl Go.Proofs.YtfbockgjhbfidaaGreatDoorW.PrintWords Go.Proofs.YtfbockgjhbfidaaGreatDoorW.PrintLast Go.Proofs.YtfbockgjhbfidaaGreatDoorW.PrintMore

def NoP (c : Int) (w : World) (e : Ending) (w' : World) : Prop := e = .returned (.tuple #[.slice none 0 0, .int .i64 c]) ∧ Below w.heap.size w w'
section
variable (A0 : Option Addr) (c0 : Nat) (s : List Ser) (A1 : Option Addr) (c1 : Nat) (l : Lbs) (tp vp : Int) (w : World)
set_option maxHeartbeats 8000000 in
set_option maxRecDepth 100000 in
theorem ref_r1 (hr0 : Kd.C k47 w A0 s.length s) (hc0 : s.length ≤ c0) (hr1 : Kd.C k44 w A1 l.length l) (hc1 : l.length ≤ c1) (kr : Nat) (hR : soundingsref05_Right.f kr s = some false) :
  Calls Tryz.prog 9 #[.slice A0 s.length c0, .slice A1 l.length c1, .agg #[.int .i64 tp, .int .u64 vp]] w (NoP 3 w) := by
 obtain ⟨w0, hw0⟩ : ∃ w0, w0 = w.alloc (.cells #[.int .i64 tp, .int .u64 vp] 26) := ⟨_, rfl⟩
 have hbw0 : Below w.heap.size w w0 := by rw [hw0]; exact below_alloc (Below.refl _ _) _
 have HP0 : Aside0 (w0.cell? ⟨w.heap.size, 0, none⟩ = some (.int .i64 tp)) := ⟨by rw [hw0]; go_simp⟩
 have HR0 := Aside0.mk (Kd.C_below hr0 hbw0)
 have HR1 := Aside0.mk (Kd.C_below hr1 hbw0)
 have HC0 := Aside0.mk hc0
 have HC1 := Aside0.mk hc1
 have HB0 := Aside0.mk (Below.refl w0.heap.size w0)
 have HBW := Aside0.mk hbw0
 have HW0 := Aside0.mk hw0
 have HR := Aside0.mk hR
 clear hr0 hc0 hr1 hc1 hbw0 hw0 hR
 go_enter Tryz.func9, Tryz.ntmps9
 go_wp2_with (first
  | (go_at_call 15; rw [← HW0.out]; with_reducible refine (soundingsref05_Right.calls kr A0 c0 s false _ HR0.out HC0.out HR.out).mono ?_; rintro e w1 ⟨rfl, hb⟩; have HB1 := Aside0.mk (below_step HB0.out hb); have p0 := pw_cell_below hb HP0.out; clear hb))
 go_ret2
 exact ⟨rfl, below_step HBW.out HB1.out⟩
set_option maxHeartbeats 8000000 in
set_option maxRecDepth 100000 in
theorem ref_r2 (hr0 : Kd.C k47 w A0 s.length s) (hc0 : s.length ≤ c0) (hr1 : Kd.C k44 w A1 l.length l) (hc1 : l.length ≤ c1) (kr km : Nat) (m : Lbs) (hR : soundingsref05_Right.f kr s = some true) (hM : soundingsref01_Make.f km l = some (m, false)) :
  Calls Tryz.prog 9 #[.slice A0 s.length c0, .slice A1 l.length c1, .agg #[.int .i64 tp, .int .u64 vp]] w (NoP 1 w) := by
 obtain ⟨w0, hw0⟩ : ∃ w0, w0 = w.alloc (.cells #[.int .i64 tp, .int .u64 vp] 26) := ⟨_, rfl⟩
 have hbw0 : Below w.heap.size w w0 := by rw [hw0]; exact below_alloc (Below.refl _ _) _
 have HP0 : Aside0 (w0.cell? ⟨w.heap.size, 0, none⟩ = some (.int .i64 tp)) := ⟨by rw [hw0]; go_simp⟩
 have HR0 := Aside0.mk (Kd.C_below hr0 hbw0)
 have HR1 := Aside0.mk (Kd.C_below hr1 hbw0)
 have HC0 := Aside0.mk hc0
 have HC1 := Aside0.mk hc1
 have HB0 := Aside0.mk (Below.refl w0.heap.size w0)
 have HBW := Aside0.mk hbw0
 have HW0 := Aside0.mk hw0
 have HR := Aside0.mk hR
 have HM := Aside0.mk hM
 clear hr0 hc0 hr1 hc1 hbw0 hw0 hR hM
 go_enter Tryz.func9, Tryz.ntmps9
 go_wp2_with (first
  | (go_at_call 15; rw [← HW0.out]; with_reducible refine (soundingsref05_Right.calls kr A0 c0 s true _ HR0.out HC0.out HR.out).mono ?_; rintro e w1 ⟨rfl, hb⟩; have HB1 := Aside0.mk (below_step HB0.out hb); have p0 := pw_cell_below hb HP0.out; clear hb)
  | (go_at_call 23; with_reducible refine (soundingsref01_Make.calls km A1 c1 l m false _ (Kd.C_below HR1.out HB1.out) HC1.out HM.out).mono ?_; rintro e w2 ⟨v2, rfl, ho, hb⟩; obtain ⟨A5, c5, rfl, hc, hC⟩ := Kd.R_reads ho; have HB2 := Aside0.mk (below_step HB1.out hb); replace p0 := pw_cell_below hb p0; clear hb ho hc hC))
 go_ret2
 exact ⟨rfl, below_step HBW.out HB2.out⟩
set_option maxHeartbeats 8000000 in
set_option maxRecDepth 100000 in
theorem ref_r3 (hr0 : Kd.C k47 w A0 s.length s) (hc0 : s.length ≤ c0) (hr1 : Kd.C k44 w A1 l.length l) (hc1 : l.length ≤ c1) (kr km : Nat) (hR : soundingsref05_Right.f kr s = some true) (hM : soundingsref01_Make.f km l = some ([], true)) :
  Calls Tryz.prog 9 #[.slice A0 s.length c0, .slice A1 l.length c1, .agg #[.int .i64 tp, .int .u64 vp]] w (NoP 1 w) := by
 obtain ⟨w0, hw0⟩ : ∃ w0, w0 = w.alloc (.cells #[.int .i64 tp, .int .u64 vp] 26) := ⟨_, rfl⟩
 have hbw0 : Below w.heap.size w w0 := by rw [hw0]; exact below_alloc (Below.refl _ _) _
 have HP0 : Aside0 (w0.cell? ⟨w.heap.size, 0, none⟩ = some (.int .i64 tp)) := ⟨by rw [hw0]; go_simp⟩
 have HR0 := Aside0.mk (Kd.C_below hr0 hbw0)
 have HR1 := Aside0.mk (Kd.C_below hr1 hbw0)
 have HC0 := Aside0.mk hc0
 have HC1 := Aside0.mk hc1
 have HB0 := Aside0.mk (Below.refl w0.heap.size w0)
 have HBW := Aside0.mk hbw0
 have HW0 := Aside0.mk hw0
 have HR := Aside0.mk hR
 have HM := Aside0.mk hM
 clear hr0 hc0 hr1 hc1 hbw0 hw0 hR hM
 go_enter Tryz.func9, Tryz.ntmps9
 go_wp2_with (first
  | (go_at_call 15; rw [← HW0.out]; with_reducible refine (soundingsref05_Right.calls kr A0 c0 s true _ HR0.out HC0.out HR.out).mono ?_; rintro e w1 ⟨rfl, hb⟩; have HB1 := Aside0.mk (below_step HB0.out hb); have p0 := pw_cell_below hb HP0.out; clear hb)
  | (go_at_call 23; with_reducible refine (soundingsref01_Make.calls km A1 c1 l [] true _ (Kd.C_below HR1.out HB1.out) HC1.out HM.out).mono ?_; rintro e w2 ⟨v2, rfl, ho, hb⟩; obtain ⟨A5, c5, rfl, hc, hC⟩ := Kd.R_reads ho; have HB2 := Aside0.mk (below_step HB1.out hb); replace p0 := pw_cell_below hb p0; clear hb ho hc hC))
 go_ret2
 exact ⟨rfl, below_step HBW.out HB2.out⟩
set_option maxHeartbeats 8000000 in
set_option maxRecDepth 100000 in
theorem ref_r4 (hr0 : Kd.C k47 w A0 s.length s) (hc0 : s.length ≤ c0) (hr1 : Kd.C k44 w A1 l.length l) (hc1 : l.length ≤ c1) (kr km : Nat) (m : Lbs) (hR : soundingsref05_Right.f kr s = some true) (hM : soundingsref01_Make.f km l = some (m, true)) (hm0 : ((m.length : Int) == 0) = false) (hm1 : ¬ (m = [])) (ht : tp < -1125899906842624) :
  Calls Tryz.prog 9 #[.slice A0 s.length c0, .slice A1 l.length c1, .agg #[.int .i64 tp, .int .u64 vp]] w (NoP 4 w) := by
 obtain ⟨w0, hw0⟩ : ∃ w0, w0 = w.alloc (.cells #[.int .i64 tp, .int .u64 vp] 26) := ⟨_, rfl⟩
 have hbw0 : Below w.heap.size w w0 := by rw [hw0]; exact below_alloc (Below.refl _ _) _
 have HP0 : Aside0 (w0.cell? ⟨w.heap.size, 0, none⟩ = some (.int .i64 tp)) := ⟨by rw [hw0]; go_simp⟩
 have HR0 := Aside0.mk (Kd.C_below hr0 hbw0)
 have HR1 := Aside0.mk (Kd.C_below hr1 hbw0)
 have HC0 := Aside0.mk hc0
 have HC1 := Aside0.mk hc1
 have HB0 := Aside0.mk (Below.refl w0.heap.size w0)
 have HBW := Aside0.mk hbw0
 have HW0 := Aside0.mk hw0
 have HR := Aside0.mk hR
 have HM := Aside0.mk hM
 clear hr0 hc0 hr1 hc1 hbw0 hw0 hR hM
 go_enter Tryz.func9, Tryz.ntmps9
 go_wp2_with (first
  | (go_at_call 15; rw [← HW0.out]; with_reducible refine (soundingsref05_Right.calls kr A0 c0 s true _ HR0.out HC0.out HR.out).mono ?_; rintro e w1 ⟨rfl, hb⟩; have HB1 := Aside0.mk (below_step HB0.out hb); have p0 := pw_cell_below hb HP0.out; clear hb)
  | (go_at_call 23; with_reducible refine (soundingsref01_Make.calls km A1 c1 l m true _ (Kd.C_below HR1.out HB1.out) HC1.out HM.out).mono ?_; rintro e w2 ⟨v2, rfl, ho, hb⟩; obtain ⟨A5, c5, rfl, hc, hC⟩ := Kd.R_reads ho; have HB2 := Aside0.mk (below_step HB1.out hb); replace p0 := pw_cell_below hb p0; clear hb ho hc hC))
 go_ret2
 exact ⟨rfl, below_step HBW.out HB2.out⟩
set_option maxHeartbeats 8000000 in
set_option maxRecDepth 100000 in
theorem ref_r5 (hr0 : Kd.C k47 w A0 s.length s) (hc0 : s.length ≤ c0) (hr1 : Kd.C k44 w A1 l.length l) (hc1 : l.length ≤ c1) (kr km : Nat) (m : Lbs) (hR : soundingsref05_Right.f kr s = some true) (hM : soundingsref01_Make.f km l = some (m, true)) (hm0 : ((m.length : Int) == 0) = false) (hm1 : ¬ (m = [])) (ht1 : ¬ tp < -1125899906842624) (ht : tp > 1125899906842624) :
  Calls Tryz.prog 9 #[.slice A0 s.length c0, .slice A1 l.length c1, .agg #[.int .i64 tp, .int .u64 vp]] w (NoP 4 w) := by
 obtain ⟨w0, hw0⟩ : ∃ w0, w0 = w.alloc (.cells #[.int .i64 tp, .int .u64 vp] 26) := ⟨_, rfl⟩
 have hbw0 : Below w.heap.size w w0 := by rw [hw0]; exact below_alloc (Below.refl _ _) _
 have HP0 : Aside0 (w0.cell? ⟨w.heap.size, 0, none⟩ = some (.int .i64 tp)) := ⟨by rw [hw0]; go_simp⟩
 have HR0 := Aside0.mk (Kd.C_below hr0 hbw0)
 have HR1 := Aside0.mk (Kd.C_below hr1 hbw0)
 have HC0 := Aside0.mk hc0
 have HC1 := Aside0.mk hc1
 have HB0 := Aside0.mk (Below.refl w0.heap.size w0)
 have HBW := Aside0.mk hbw0
 have HW0 := Aside0.mk hw0
 have HR := Aside0.mk hR
 have HM := Aside0.mk hM
 clear hr0 hc0 hr1 hc1 hbw0 hw0 hR hM
 go_enter Tryz.func9, Tryz.ntmps9
 go_wp2_with (first
  | (go_at_call 15; rw [← HW0.out]; with_reducible refine (soundingsref05_Right.calls kr A0 c0 s true _ HR0.out HC0.out HR.out).mono ?_; rintro e w1 ⟨rfl, hb⟩; have HB1 := Aside0.mk (below_step HB0.out hb); have p0 := pw_cell_below hb HP0.out; clear hb)
  | (go_at_call 23; with_reducible refine (soundingsref01_Make.calls km A1 c1 l m true _ (Kd.C_below HR1.out HB1.out) HC1.out HM.out).mono ?_; rintro e w2 ⟨v2, rfl, ho, hb⟩; obtain ⟨A5, c5, rfl, hc, hC⟩ := Kd.R_reads ho; have HB2 := Aside0.mk (below_step HB1.out hb); replace p0 := pw_cell_below hb p0; clear hb ho hc hC))
 go_ret2
 exact ⟨rfl, below_step HBW.out HB2.out⟩
end
/-- What the reference's Append answers. -/
def RefP (p : List Ser × Option Int) (w : World) (e : Ending) (w' : World) : Prop := ∃ A c, e = .returned (.tuple #[.slice A p.1.length c, .int .i64 (p.2.getD 0)]) ∧ p.1.length ≤ c ∧ Kd.C k47 w' A p.1.length p.1 ∧ Below w.heap.size w w'
theorem NoP.to {c : Int} {w w' : World} {e : Ending} (h : NoP c w e w') : RefP ([], some c) w e w' := ⟨none, 0, h.1, Nat.le_refl _, C_none _ 0, h.2⟩
theorem refAppend_any (A0 : Option Addr) (c0 : Nat) (s : List Ser) (A1 : Option Addr) (c1 : Nat) (l : Lbs) (tp vp : Int) (w : World) (hr0 : Kd.C k47 w A0 s.length s) (hc0 : s.length ≤ c0) (hr1 : Kd.C k44 w A1 l.length l) (hc1 : l.length ≤ c1)
  (hs : okS s) (hsr : ∀ x ∈ s, smallR x.f0) (hu : ∀ x ∈ s, ∀ p ∈ x.f1, u64P p.f1) (hl : shortB l = true) (hv : u64P vp) :
  Calls Tryz.prog 9 #[.slice A0 s.length c0, .slice A1 l.length c1, .agg #[.int .i64 tp, .int .u64 vp]] w (RefP (appendV s l tp vp) w) := by
 obtain ⟨kr, hR⟩ := refRight05_some s hs hsr hu
 have hM := refMake_some l hl 5000 (by omega)
 rw [refV_eq] at hM
 have sl := (short_small hl).1
 unfold appendV
 by_cases hr : RightP s
 ·rw [decide_eq_true hr] at hR
  rw [if_pos hr]
  rcases makeV_two (sortL l) with ⟨e, hR2, _⟩ | e
  ·have hm : makeV (sortL l) = ((makeV (sortL l)).1, none) := by rw [← e]
   have sm := small_made sl hm
   rw [hm] at hM
   rw [hm]
   generalize (makeV (sortL l)).1 = m at *
   dsimp only at hM ⊢
   by_cases h0 : m.length = 0
   ·rw [if_pos h0]
    obtain rfl := List.eq_nil_of_length_eq_zero h0
    exact (ref_r3 A0 c0 s A1 c1 l tp vp w hr0 hc0 hr1 hc1 kr 5000 hR hM).mono fun _ _ h => h.to
   ·have m0 : ((m.length : Int) == 0) = false := by rw [beq_eq_false_iff_ne]; omega
    have m1 : ¬ (m = []) := fun h => h0 (by rw [h]; rfl)
    rw [if_neg h0]
    by_cases ht : TimP tp
    ·rw [if_pos ht]
     have hC : ∀ x ∈ s, soundingsref01_Cmp.f 5000 x.f0 m = some (cmpLs x.f0 m) := fun x hx => refCmp_some _ _ (by have := (hs.2 x hx).1.1; omega) (by have := sm.1; omega) 5000 (by have := (hs.2 x hx).1.1; have := sm.1; omega)
     have hG := refGo_ins m tp (normI vp) s [] hr.2
     refine (ref_loop A0 c0 s A1 c1 l m tp vp (normI vp) _ kr 5000 5000 w hr0 hc0 hr1 hc1 hs hR hM m0 m1 (by have := ht.1; omega) (by have := ht.2; omega) (refNorm_some vp hv) hC (fun x hx => (hr.1 x hx).2.2.1) hG).mono ?_
     rintro e w' ⟨A, c, rfl, hc, hC, hb⟩
     rw [put_ins m tp vp s hr.2]
     cases hi : ins m tp (normI vp) s with
     | none => rw [hi] at hc hC; exact ⟨A, c, rfl, hc, hC, hb⟩
     | some o => rw [hi] at hc hC; exact ⟨A, c, rfl, hc, hC, hb⟩
    ·rw [if_neg ht]
     by_cases t1 : tp < -1125899906842624
     ·exact (ref_r4 A0 c0 s A1 c1 l tp vp w hr0 hc0 hr1 hc1 kr 5000 m hR hM m0 m1 t1).mono fun _ _ h => h.to
     ·exact (ref_r5 A0 c0 s A1 c1 l tp vp w hr0 hc0 hr1 hc1 kr 5000 m hR hM m0 m1 t1 (by unfold TimP at ht; omega)).mono fun _ _ h => h.to
  ·rw [e] at hM
   rw [e]
   exact (ref_r2 A0 c0 s A1 c1 l tp vp w hr0 hc0 hr1 hc1 kr 5000 _ hR hM).mono fun _ _ h => h.to
 ·rw [decide_eq_false hr] at hR
  rw [if_neg hr]
  exact (ref_r1 A0 c0 s A1 c1 l tp vp w hr0 hc0 hr1 hc1 kr hR).mono fun _ _ h => h.to
end Go.Proofs.YtfbockgjhbfidaaGreatDoor.Pr
end
