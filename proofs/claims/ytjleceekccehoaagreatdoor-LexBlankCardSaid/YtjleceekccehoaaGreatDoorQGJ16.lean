/- Texts of this session, cut down to what one claim needs and joined: LexS, LexC, LexD, LexT, FfNumT. -/
import Derived.Test.YtjleceekccehoaaGreatDoorQLexN
import Derived.Test.YtjleceekccehoaaGreatDoorQGJ15
import Derived.Test.YtjleceekccehoaaGreatDoorQGJ14
import Derived.Test.YtjleceekccehoaaGreatDoorQGJ9
import Derived.Lib.IndexLaws
section
set_option linter.unusedVariables false
set_option linter.unusedSimpArgs false
namespace Go.Proofs.YtjleceekccehoaaGreatDoor.Pr
open Go.RowKit Go.Proofs.YtjleceekccehoaaGreatDoorW.PrintWords Go.Proofs.YtjleceekccehoaaGreatDoorW.PrintLast Go.Proofs.YtjleceekccehoaaGreatDoorW.PrintMore

theorem num1_any (z was a b : Nat) (pl : Bool) (w0 w : World) (h : NBox w0 w a b pl was) :
    Calls Tryz.prog 73 #[.int .u8 z, .pointer (some ⟨a, 0, none⟩), .pointer (some ⟨b, 0, none⟩)] w fun e w' => e = .returned (.bool (okS pl was z)) ∧ NBox w0 w' a b (plS pl was) z ∧ Keep a b w w' :=
  num1_core z was a b pl _ _ _ _ _ _ _ _ _ _ w0 w h rfl rfl rfl rfl rfl rfl rfl rfl rfl rfl _ rfl _ (by unfold plS; by_cases hw : was = 0 <;> simp [hw])
/-- How many bytes from here on are a number's. -/
def runS : Bool → Nat → List UInt8 → Nat
  | _, _, [] => 0
  | pl, was, c :: r => if okS pl was c.toNat = true then runS (plS pl was) c.toNat r + 1 else 0
theorem runS_le : ∀ (s : List UInt8) (pl : Bool) (was : Nat), runS pl was s ≤ s.length := by
  intro s
  induction s with
  | nil => intro _ _; exact Nat.le_refl _
  | cons c r ih => intro pl was; unfold runS; split <;> simp; have := ih (plS pl was) c.toNat; omega
/-- while's own rest, beside the two variables. -/
structure WBox (w0 w : World) (g a b : Nat) (l : List UInt8) (i : Nat) (pl : Bool) (was : Nat) : Prop where
  n : NBox w0 w a b pl was
  blk : w.heap[g]? = some (.cells #[.string (bs l), .int .i64 i] 57 (0, 0))
  na : g ≠ a
  nb : g ≠ b
section
variable {w0 w w' : World} {g a b : Nat} {l : List UInt8} {i : Nat} {pl p : Bool} {was z : Nat}
theorem WBox.c0 (h : WBox w0 w g a b l i pl was) : w.cell? ⟨g, 0, none⟩ = some (.string (bs l)) := (blk_cell h.blk 0).trans rfl
theorem WBox.c1 (h : WBox w0 w g a b l i pl was) : w.cell? ⟨g, 1, none⟩ = some (.int .i64 i) := (blk_cell h.blk 1).trans rfl
theorem WBox.new (h : NBox w0 w a b pl was) (l : List UInt8) (i : Nat) : WBox w0 (w.alloc (.cells #[.string (bs l), .int .i64 i] 57)) w.heap.size a b l i pl was :=
  ⟨h.below (below_alloc (Below.refl _ _) _), heap_alloc_new w _, Nat.ne_of_gt (heap_lt h.ba), Nat.ne_of_gt (heap_lt h.bb)⟩
theorem WBox.step (h : WBox w0 w g a b l i pl was) (hn : NBox w0 w' a b p z) (hk : Keep a b w w') : WBox w0 w' g a b l i p z := ⟨hn, (hk g h.na h.nb).trans h.blk, h.na, h.nb⟩
end
set_option maxHeartbeats 1000000 in
set_option maxRecDepth 100000 in
theorem whileS_any (l : List UInt8) (hl : l.length ≤ 1000000) (i : Nat) (s : List UInt8) (hA : At l i s) (a b : Nat) (pl : Bool) (was : Nat) (w0 w : World) (hN : NBox w0 w a b pl was) :
    Calls Tryz.prog 45 #[.agg #[.string (bs l), .int .i64 i], .func (.func 73) #[] #[.pointer (some ⟨a, 0, none⟩), .pointer (some ⟨b, 0, none⟩)]] w fun e w' => e = .returned (.string (bs (s.take (runS pl was s)))) ∧ Below w0.heap.size w0 w' := by
  have hsz := bs_size l
  have hil := hA.le
  have HA := Aside0.mk hA
  have HR := Aside0.mk (runS_le s pl was)
  have HB := Aside0.mk (WBox.new hN l i)
  obtain ⟨TOT, hTOT⟩ : ∃ T, runS pl was s = T := ⟨_, rfl⟩
  have HTOT := Aside0.mk hTOT
  rw [hTOT]
  clear hA hN hTOT
  go_enter Tryz.func45, Tryz.ntmps45
  have x0 := HB.out.c0
  have x1 := HB.out.c1
  go_wp2_with fail
  go_loopg [5] s.length (fun q v5 wr => ∃ (j : Nat) (r : List UInt8) (p : Bool) (y : Nat), v5 = .int .i64 (j : Int) ∧ q = r.length ∧ j ≤ l.length ∧ Aside0 (At l j r ∧ j + runS p y r = i + TOT) ∧ Aside0 (WBox w0 wr w.heap.size a b l i p y))
  case atStart => exact ⟨i, s, pl, was, rfl, rfl, hil, ⟨HA.out, by rw [HTOT.out]⟩, HB⟩
  case round =>
    clear HB x0 x1
    obtain ⟨j, r, p, y, h5, hq, hj, HJ, HB⟩ := hrel
    have HQ := Aside0.mk hq
    have x0 := HB.out.c0
    have x1 := HB.out.c1
    clear hq
    subst h5
    cases r with
    | nil =>
      have hjl := HJ.out.1.nil
      have t3 : ((j : Int) < (l.length : Int)) = False := eq_false (by omega)
      have HV : Aside0 (j = i + TOT) := ⟨by have := HJ.out.2; simpa [runS] using this⟩
      have t4 : (i : Int) ≤ (j : Int) := by have := HV.out; omega
      have t5 : (j : Int) ≤ (l.length : Int) := by omega
      have t6 : (0 : Int) ≤ (i : Int) := by omega
      have hx : (bs l).extract i j = bs (s.take TOT) := by rw [bs_mid, HA.out.eq, show j - i = TOT from by have := HV.out; omega]
      clear hjl
      go_wp2_with fail
      go_ret
      exact ⟨by first | rfl | simp, HB.out.n.bel⟩
    | cons c r =>
      have hlt := HJ.out.1.lt
      have hb := HJ.out.1.byte
      have hz : ∀ h : j < (bs l).size, ((bs l)[j]'h).toNat = c.toNat := fun h => by
        have h1 := hb
        unfold bt at h1
        rw [dif_pos (by simpa using h)] at h1
        simp only [Int.toNat_natCast] at h1
        omega
      obtain ⟨z, hzz⟩ : ∃ z, c.toNat = z := ⟨_, rfl⟩
      have HZ := Aside0.mk hzz
      rw [hzz] at hz
      have t2 : (0 : Int) ≤ (j : Int) := by omega
      have t3 : (j : Int) < (l.length : Int) := by omega
      clear hb hlt hzz
      obtain ⟨bb, hpb⟩ : ∃ bb, okS p y z = bb := ⟨_, rfl⟩
      have HPB := Aside0.mk hpb
      clear hpb
      go_wp2_with fail
      refine (num1_any z y a b p w0 _ HB.out.n).mono ?_
      rw [HPB.out]
      rintro e_ w2 ⟨rfl, hn2, hk2⟩
      have HB2 := Aside0.mk (HB.out.step hn2 hk2)
      have y0 := HB2.out.c0
      have y1 := HB2.out.c1
      clear hn2 hk2 HB x0 x1
      cases bb
      · have HV : Aside0 (j = i + TOT) := ⟨by have := HJ.out.2; rw [runS, if_neg (by rw [HZ.out, HPB.out]; simp)] at this; omega⟩
        have t4 : (i : Int) ≤ (j : Int) := by have := HV.out; omega
        have t5 : (j : Int) ≤ (l.length : Int) := by omega
        have t6 : (0 : Int) ≤ (i : Int) := by omega
        have hx : (bs l).extract i j = bs (s.take TOT) := by rw [bs_mid, HA.out.eq, show j - i = TOT from by have := HV.out; omega]
        go_wp2_with fail
        go_ret
        exact ⟨by first | rfl | simp, HB2.out.n.bel⟩
      · go_wp2_with fail
        go_roundg r.length
        case measure => have := HQ.out; simp at this; omega
        case rel => exact ⟨j + 1, r, plS p y, z, by go_num, rfl, HJ.out.1.next.le, ⟨HJ.out.1.next, by have := HJ.out.2; rw [runS, if_pos (by rw [HZ.out, HPB.out]), HZ.out] at this; omega⟩, HB2⟩
end Go.Proofs.YtjleceekccehoaaGreatDoor.Pr
end

section
set_option linter.unusedVariables false
set_option linter.unusedSimpArgs false
namespace Go.Proofs.YtjleceekccehoaaGreatDoor.Pr
open Go.RowKit Go.Proofs.YtjleceekccehoaaGreatDoorW.PrintWords Go.Proofs.YtjleceekccehoaaGreatDoorW.PrintLast Go.Proofs.YtjleceekccehoaaGreatDoorW.PrintMore

set_option maxRecDepth 100000 in
theorem en46 : ∀ args w, (callFunc 46 args).run Tryz.prog w = .ok (.enter 46 args) w := fun _ _ => rfl
set_option maxRecDepth 100000 in
theorem en48 : ∀ args w, (callFunc 48 args).run Tryz.prog w = .ok (.enter 48 args) w := fun _ _ => rfl
set_option maxRecDepth 100000 in
theorem en71 : ∀ args w, (callFunc 71 args).run Tryz.prog w = .ok (.enter 71 args) w := fun _ _ => rfl
/-- How many bytes are passed by. -/
def blankV (s : List UInt8) : Nat := if run isBlk s = 0 then (match s with | c :: _ => if c.toNat = 35 then run (fun z => z != 10) s else 0 | [] => 0) else run isBlk s
set_option maxHeartbeats 4000000 in
set_option maxRecDepth 100000 in
theorem blank_any (l : List UInt8) (hl : l.length ≤ 1000000) (i : Nat) (c : UInt8) (r : List UInt8) (hA : At l i (c :: r)) (w : World) :
    Calls Tryz.prog 31 #[.agg #[.string (bs l), .int .i64 i]] w fun e w' => e = .returned (.int .i64 (blankV (c :: r))) ∧ Below w.heap.size w w' := by
  have hsz := bs_size l
  have hlt := hA.lt
  have hb := hA.byte
  have hz : ∀ h : i < (bs l).size, ((bs l)[i]'h).toNat = c.toNat := fun h => by
    have h1 := hb
    unfold bt at h1
    rw [dif_pos (by simpa using h)] at h1
    simp only [Int.toNat_natCast] at h1
    omega
  obtain ⟨z, hzz⟩ : ∃ z, c.toNat = z := ⟨_, rfl⟩
  have HV : Aside0 (blankV (c :: r) = if run isBlk (c :: r) = 0 then (if z = 35 then run (fun z => z != 10) (c :: r) else 0) else run isBlk (c :: r)) := ⟨by unfold blankV; rw [← hzz]⟩
  rw [hzz] at hz
  obtain ⟨s, hs⟩ : ∃ s, c :: r = s := ⟨_, rfl⟩
  rw [hs] at HV hA ⊢
  have HA := Aside0.mk hA
  have HL := Aside0.mk hl
  have hlen := hA.len
  have r1 := run_le isBlk s
  have r2 := run_le (fun z => z != 10) s
  obtain ⟨n, hn⟩ : ∃ n, run isBlk s = n := ⟨_, rfl⟩
  obtain ⟨m, hm⟩ : ∃ n, run (fun z => z != 10) s = n := ⟨_, rfl⟩
  have q1 : (bs (s.take (run isBlk s))).size = n := by rw [bs_size, List.length_take, Nat.min_eq_left r1, hn]
  have q2 : (bs (s.take (run (fun z => z != 10) s))).size = m := by rw [bs_size, List.length_take, Nat.min_eq_left r2, hm]
  obtain ⟨b1, hb1⟩ : ∃ b, bs (s.take (run isBlk s)) = b := ⟨_, rfl⟩
  obtain ⟨b2, hb2⟩ : ∃ b, bs (s.take (run (fun z => z != 10) s)) = b := ⟨_, rfl⟩
  have W1 : Aside0 (∀ w, Calls Tryz.prog 45 #[.agg #[.string (bs l), .int .i64 i], .func (.func 46) #[] #[]] w fun e w' => e = .returned (.string b1) ∧ Below w.heap.size w w') := ⟨fun w => by rw [← hb1]; exact while_any _ isBlk blank1_any en46 l hl i s hA w⟩
  have W2 : Aside0 (∀ w, Calls Tryz.prog 45 #[.agg #[.string (bs l), .int .i64 i], .func (.func 48) #[] #[]] w fun e w' => e = .returned (.string b2) ∧ Below w.heap.size w w') := ⟨fun w => by rw [← hb2]; exact while_any _ _ blank2_any en48 l hl i s hA w⟩
  rw [hb1] at q1
  rw [hb2] at q2
  rw [hn, hm] at HV
  have t2 : (0 : Int) ≤ (i : Int) := by omega
  have t3 : (i : Int) < (l.length : Int) := by omega
  have HB := Aside0.mk (RBox.new (w0 := w) w l i (Below.refl _ _))
  have x0 := HB.out.c0
  have x1 := HB.out.c1
  rw [hn] at r1
  rw [hm] at r2
  clear hA hl hlt hb hs hzz hlen hn hm hb1 hb2 r1 r2
  by_cases h0 : n = 0
  · subst h0
    by_cases h35 : z = 35
    · have t5 : ((z : Int) == 35) = true := by rw [beq_iff_eq]; omega
      have HW : Aside0 (blankV s = m) := ⟨by rw [HV.out, if_pos rfl, if_pos h35]⟩
      rw [HW.out]
      clear h35
      go_enter Tryz.func31, Tryz.ntmps31
      go_wp2_with fail
      refine (W1.out _).mono ?_
      rintro e_ w1 ⟨rfl, hb1⟩
      have HB1 := Aside0.mk (HB.out.below hb1)
      have y0 := HB1.out.c0
      have y1 := HB1.out.c1
      clear hb1 HB x0 x1
      go_wp2_with fail
      refine (W2.out _).mono ?_
      rintro e_ w2 ⟨rfl, hb2⟩
      have HB2 := Aside0.mk (HB1.out.below hb2)
      clear hb2
      go_wp2_with fail
      go_ret
      exact ⟨by first | rfl | simp, HB2.out.bel⟩
    · have t5 : ((z : Int) == 35) = false := by rw [beq_eq_false_iff_ne]; omega
      have HW : Aside0 (blankV s = 0) := ⟨by rw [HV.out, if_pos rfl, if_neg h35]⟩
      rw [HW.out]
      clear h35
      go_enter Tryz.func31, Tryz.ntmps31
      go_wp2_with fail
      refine (W1.out _).mono ?_
      rintro e_ w1 ⟨rfl, hb1⟩
      have HB1 := Aside0.mk (HB.out.below hb1)
      have y0 := HB1.out.c0
      have y1 := HB1.out.c1
      clear hb1 HB x0 x1
      go_wp2_with fail
      go_ret
      exact ⟨by first | rfl | simp, HB1.out.bel⟩
  · have HW : Aside0 (blankV s = n) := ⟨by rw [HV.out, if_neg h0]⟩
    rw [HW.out]
    have t5 : ((n : Int) == 0) = false := by rw [beq_eq_false_iff_ne]; omega
    clear h0
    go_enter Tryz.func31, Tryz.ntmps31
    go_wp2_with fail
    refine (W1.out _).mono ?_
    rintro e_ w1 ⟨rfl, hb1⟩
    have HB1 := Aside0.mk (HB.out.below hb1)
    have y0 := HB1.out.c0
    have y1 := HB1.out.c1
    clear hb1 HB x0 x1
    go_wp2_with fail
    go_ret
    exact ⟨by first | rfl | simp, HB1.out.bel⟩
end Go.Proofs.YtjleceekccehoaaGreatDoor.Pr
end

section
set_option linter.unusedVariables false
set_option linter.unusedSimpArgs false
namespace Go.Proofs.YtjleceekccehoaaGreatDoor.Pr
open Go.RowKit Go.Proofs.YtjleceekccehoaaGreatDoorW.PrintWords Go.Proofs.YtjleceekccehoaaGreatDoorW.PrintLast Go.Proofs.YtjleceekccehoaaGreatDoorW.PrintMore

def wordV (s : List UInt8) : Nat := match s with | c :: _ => if isLet c.toNat = true then run (fun z => isLet z || isDig z) s else 0 | [] => 0
def tok0 : Value := .agg #[.int .i64 0, .int .i64 0, .string ⟨#[]⟩]
set_option maxHeartbeats 4000000 in
set_option maxRecDepth 100000 in
theorem word_any (l : List UInt8) (hl : l.length ≤ 1000000) (i : Nat) (c : UInt8) (r : List UInt8) (hA : At l i (c :: r)) (w : World) :
    Calls Tryz.prog 49 #[.agg #[.string (bs l), .int .i64 i]] w fun e w' => e = .returned (.tuple #[if isLet c.toNat = true then .agg #[.int .i64 1, .int .i64 0, .string (bs ((c :: r).take (wordV (c :: r))))] else tok0, .int .i64 (wordV (c :: r))]) ∧ Below w.heap.size w w' := by
  have hsz := bs_size l
  have hlt := hA.lt
  have hb := hA.byte
  have hz : ∀ h : i < (bs l).size, ((bs l)[i]'h).toNat = c.toNat := fun h => by
    have h1 := hb
    unfold bt at h1
    rw [dif_pos (by simpa using h)] at h1
    simp only [Int.toNat_natCast] at h1
    omega
  obtain ⟨z, hzz⟩ : ∃ z, c.toNat = z := ⟨_, rfl⟩
  rw [hzz] at hz ⊢
  have HV : Aside0 (wordV (c :: r) = if isLet z = true then run (fun z => isLet z || isDig z) (c :: r) else 0) := ⟨by unfold wordV; rw [← hzz]⟩
  obtain ⟨s, hs⟩ : ∃ s, c :: r = s := ⟨_, rfl⟩
  rw [hs] at HV hA ⊢
  obtain ⟨n, hn⟩ : ∃ n, run (fun z => isLet z || isDig z) s = n := ⟨_, rfl⟩
  have r1 := run_le (fun z => isLet z || isDig z) s
  have q1 : (bs (s.take n)).size = n := by rw [bs_size, List.length_take, ← hn, Nat.min_eq_left r1]
  have W1 : Aside0 (∀ w, Calls Tryz.prog 45 #[.agg #[.string (bs l), .int .i64 i], .func (.func 71) #[] #[]] w fun e w' => e = .returned (.string (bs (s.take n))) ∧ Below w.heap.size w w') := ⟨fun w => by rw [← hn]; exact while_any _ _ word1_any en71 l hl i s hA w⟩
  rw [hn] at HV
  obtain ⟨b1, hb1⟩ : ∃ b, bs (s.take n) = b := ⟨_, rfl⟩
  have HB1 := Aside0.mk hb1
  rw [hb1] at q1
  have W2 : Aside0 (∀ w, Calls Tryz.prog 45 #[.agg #[.string (bs l), .int .i64 i], .func (.func 71) #[] #[]] w fun e w' => e = .returned (.string b1) ∧ Below w.heap.size w w') := ⟨by rw [← hb1]; exact W1.out⟩
  have t2 : (0 : Int) ≤ (i : Int) := by omega
  have t3 : (i : Int) < (l.length : Int) := by omega
  have HB := Aside0.mk (RBox.new (w0 := w) w l i (Below.refl _ _))
  have x0 := HB.out.c0
  have x1 := HB.out.c1
  obtain ⟨b, hbl⟩ : ∃ b, isLet z = b := ⟨_, rfl⟩
  have HBL := Aside0.mk hbl
  rw [hbl] at HV ⊢
  clear hA hl hlt hb hs hzz hn hb1 r1 W1 hbl
  cases b
  · have HW : Aside0 (wordV s = 0) := ⟨by rw [HV.out]; rfl⟩
    rw [HW.out]
    go_enter Tryz.func49, Tryz.ntmps49
    go_wp2_with (go_at_call 70; refine (letter_any z _).mono ?_; rw [HBL.out]; rintro e_ w' ⟨rfl, rfl⟩)
    have HG : ((w.alloc (.cells #[.string (bs l), .int .i64 i] 57)).alloc (.cells #[.int .i64 0, .int .i64 0, .string ⟨#[]⟩] 41)).heap[w.heap.size + 1]? = some (.cells #[.int .i64 0, .int .i64 0, .string ⟨#[]⟩] 41 (0, 0)) := by
      have h := heap_alloc_new (w.alloc (.cells #[.string (bs l), .int .i64 i] 57)) (.cells #[.int .i64 0, .int .i64 0, .string ⟨#[]⟩] 41)
      rwa [show (w.alloc (.cells #[.string (bs l), .int .i64 i] 57)).heap.size = w.heap.size + 1 from Array.size_push _] at h
    refine bodyPost_ret (results_list (rs := [.cell 2 41, .tmp 3]) rfl (by simp) (.cell (w.heap.size + 1) 41 _ (0, 0) _ rfl HG rfl rfl rfl (.tmp .nil))) rfl ?_
    exact ⟨rfl, below_alloc (below_alloc (Below.refl _ _) _) _⟩
  · have HW : Aside0 (wordV s = n) := ⟨by rw [HV.out]; rfl⟩
    rw [HW.out, HB1.out]
    go_enter Tryz.func49, Tryz.ntmps49
    go_wp2_with (go_at_call 70; refine (letter_any z _).mono ?_; rw [HBL.out]; rintro e_ w' ⟨rfl, rfl⟩)
    refine (W2.out _).mono ?_
    rintro e_ w1 ⟨rfl, hb1⟩
    have HG0 := heap_alloc_new (w.alloc (.cells #[.string (bs l), .int .i64 i] 57)) (.cells #[.int .i64 0, .int .i64 0, .string ⟨#[]⟩] 41)
    rw [show (w.alloc (.cells #[.string (bs l), .int .i64 i] 57)).heap.size = w.heap.size + 1 from Array.size_push _] at HG0
    have HG : w1.heap[w.heap.size + 1]? = some (.cells #[.int .i64 0, .int .i64 0, .string ⟨#[]⟩] 41 (0, 0)) := (hb1.block (w.heap.size + 1) (by rcases Nat.lt_or_ge (w.heap.size + 1) ((w.alloc (.cells #[.string (bs l), .int .i64 i] 57)).alloc (.cells #[.int .i64 0, .int .i64 0, .string ⟨#[]⟩] 41)).heap.size with h | h; exact h; rw [Array.getElem?_eq_none h] at HG0; cases HG0)).trans HG0
    have k0 : w1.cell? ⟨w.heap.size + 1, 0, none⟩ = some (.int .i64 0) := (blk_cell HG 0).trans rfl
    have k1 : w1.cell? ⟨w.heap.size + 1, 1, none⟩ = some (.int .i64 0) := (blk_cell HG 1).trans rfl
    have k2 : w1.cell? ⟨w.heap.size + 1, 2, none⟩ = some (.string ⟨#[]⟩) := (blk_cell HG 2).trans rfl
    have f0 : w1.frozen? ⟨w.heap.size + 1, 0, none⟩ = false := by simp [World.frozen?, HG]
    have f1 : w1.frozen? ⟨w.heap.size + 1, 1, none⟩ = false := by simp [World.frozen?, HG]
    have f2 : w1.frozen? ⟨w.heap.size + 1, 2, none⟩ = false := by simp [World.frozen?, HG]
    have HGA := Aside0.mk HG
    have HB9 := Aside0.mk hb1
    clear HG HG0 hb1
    go_wp2_with fail
    have HG2 : ((((w1.setCell ⟨w.heap.size + 1, 0, none⟩ (.int .i64 1)).setCell ⟨w.heap.size + 1, 1, none⟩ (.int .i64 0)).setCell ⟨w.heap.size + 1, 2, none⟩ (.string b1))).heap[w.heap.size + 1]? = some (.cells #[.int .i64 1, .int .i64 0, .string b1] 41 (0, 0)) := by
      have h := HGA.out
      simp [World.setCell, Array.getElem?_modify, h]
    refine bodyPost_ret (results_list (rs := [.cell 2 41, .tmp 3]) rfl (by simp) (.cell (w.heap.size + 1) 41 _ (0, 0) _ rfl HG2 rfl rfl rfl (.tmp .nil))) rfl ?_
    exact ⟨rfl, below_set (below_set (below_set (below_step (below_alloc (below_alloc (Below.refl _ _) _) _) HB9.out) (Nat.le_succ _)) (Nat.le_succ _)) (Nat.le_succ _)⟩
end Go.Proofs.YtjleceekccehoaaGreatDoor.Pr
end

section
set_option linter.unusedVariables false
set_option linter.unusedSimpArgs false
namespace Go.Proofs.YtjleceekccehoaaGreatDoor.Pr
open Go.RowKit Go.Proofs.YtjleceekccehoaaGreatDoorW.PrintWords Go.Proofs.YtjleceekccehoaaGreatDoorW.PrintLast Go.Proofs.YtjleceekccehoaaGreatDoorW.PrintMore

/-- A token: its kind, its text, and how many bytes it has. -/
abbrev Tk := Option (Nat × List UInt8 × Nat)
def tkV : Tk → Value
  | none => .tuple #[tok0, .int .i64 0]
  | some (k, t, n) => .tuple #[.agg #[.int .i64 k, .int .i64 0, .string (bs t)], .int .i64 n]
theorem heap_tok0 (w : World) (l : List UInt8) (i : Nat) : ((w.alloc (.cells #[.string (bs l), .int .i64 i] 57)).alloc (.cells #[.int .i64 0, .int .i64 0, .string ⟨#[]⟩] 41)).heap[w.heap.size + 1]? = some (.cells #[.int .i64 0, .int .i64 0, .string ⟨#[]⟩] 41 (0, 0)) := by
  have h := heap_alloc_new (w.alloc (.cells #[.string (bs l), .int .i64 i] 57)) (.cells #[.int .i64 0, .int .i64 0, .string ⟨#[]⟩] 41)
  rwa [show (w.alloc (.cells #[.string (bs l), .int .i64 i] 57)).heap.size = w.heap.size + 1 from Array.size_push _] at h
/-- The result variable for a token: block g, made since w0. -/
structure TkB (w0 w : World) (g : Nat) : Prop where
  blk : w.heap[g]? = some (.cells #[.int .i64 0, .int .i64 0, .string ⟨#[]⟩] 41 (0, 0))
  ge : w0.heap.size ≤ g
  bel : Below w0.heap.size w0 w
section
variable {w0 w w' : World} {g : Nat}
theorem TkB.c0 (h : TkB w0 w g) : w.cell? ⟨g, 0, none⟩ = some (.int .i64 0) := (blk_cell h.blk 0).trans rfl
theorem TkB.c1 (h : TkB w0 w g) : w.cell? ⟨g, 1, none⟩ = some (.int .i64 0) := (blk_cell h.blk 1).trans rfl
theorem TkB.c2 (h : TkB w0 w g) : w.cell? ⟨g, 2, none⟩ = some (.string ⟨#[]⟩) := (blk_cell h.blk 2).trans rfl
theorem TkB.f0 (h : TkB w0 w g) (i : Nat) : w.frozen? ⟨g, i, none⟩ = false := by have h1 := h.blk; simp [World.frozen?, h1]
theorem TkB.below (h : TkB w0 w g) (hb : Below w.heap.size w w') : TkB w0 w' g := ⟨(hb.block g (heap_lt h.blk)).trans h.blk, h.ge, below_step h.bel hb⟩
theorem TkB.set3 (h : TkB w0 w g) (x y : Value) (b : ByteArray) : (((w.setCell ⟨g, 0, none⟩ x).setCell ⟨g, 1, none⟩ y).setCell ⟨g, 2, none⟩ (.string b)).heap[g]? = some (.cells #[x, y, .string b] 41 (0, 0)) := by
  have h1 := h.blk
  simp [World.setCell, Array.getElem?_modify, h1]
theorem TkB.bel3 (h : TkB w0 w g) (x y z : Value) : Below w0.heap.size w0 (((w.setCell ⟨g, 0, none⟩ x).setCell ⟨g, 1, none⟩ y).setCell ⟨g, 2, none⟩ z) := below_set (below_set (below_set h.bel h.ge) h.ge) h.ge
end
theorem TkB.new (w : World) (l : List UInt8) (i : Nat) : TkB w ((w.alloc (.cells #[.string (bs l), .int .i64 i] 57)).alloc (.cells #[.int .i64 0, .int .i64 0, .string ⟨#[]⟩] 41)) (w.heap.size + 1) :=
  ⟨heap_tok0 w l i, Nat.le_succ _, below_alloc (below_alloc (Below.refl _ _) _) _⟩
end Go.Proofs.YtjleceekccehoaaGreatDoor.Pr
end

section
set_option linter.unusedVariables false
set_option linter.unusedSimpArgs false
namespace Go.Proofs.YtjleceekccehoaaGreatDoor.Pr
open Go.RowKit

theorem dig_num {c : UInt8} (h : dgs.contains c = true) : NumC c := by
  simp only [dgs, List.contains_eq_mem, List.mem_cons, List.not_mem_nil, or_false, decide_eq_true_eq] at h
  rcases h with rfl | rfl | rfl | rfl | rfl | rfl | rfl | rfl | rfl | rfl <;> exact Or.inl (by decide)
theorem tw_mem {p : UInt8 → Bool} : ∀ {l : List UInt8} {c : UInt8}, c ∈ l.takeWhile p → p c = true := by
  intro l
  induction l with
  | nil => intro c h; cases h
  | cons d r ih =>
    intro c h
    rw [List.takeWhile_cons] at h
    split at h
    · rcases List.mem_cons.1 h with rfl | h1
      · assumption
      · exact ih h1
    · cases h
theorem all_dropD {l : List UInt8} (h : ∀ c ∈ dropD l, NumC c) : ∀ c ∈ l, NumC c := by
  intro c hc
  rw [← List.takeWhile_append_dropWhile (p := (dgs.contains ·)) (l := l)] at hc
  rcases List.mem_append.1 hc with h1 | h1
  · exact dig_num (tw_mem h1)
  · exact h c h1
theorem among_mem {some : List UInt8} {c : UInt8} {r : List UInt8} (h : among some (c :: r) = true) : c ∈ some := by
  have h1 := of_decide_eq_true h
  obtain ⟨o, ho⟩ : ∃ o : Nat, Lib.indexByte some c = o := ⟨(Lib.indexByte some c).toNat, by omega⟩
  exact List.mem_of_getElem? (Lib.indexByte_some ho).1
theorem all_dropS {some : List UInt8} (hs : ∀ c ∈ some, NumC c) {l : List UInt8} (h : ∀ c ∈ dropS some l, NumC c) : ∀ c ∈ l, NumC c := by
  intro c hc
  unfold dropS at h
  split at h
  · rename_i ha
    cases l with
    | nil => cases hc
    | cons d r =>
      rcases List.mem_cons.1 hc with rfl | h1
      · exact hs _ (among_mem ha)
      · exact h c h1
  · exact h c hc
theorem plain_all {l : List UInt8} (h : plainV l = true) : ∀ c ∈ l, NumC c := by
  unfold plainV at h
  have n45 : ∀ c ∈ [(45 : UInt8)], NumC c := by intro c hc; simp at hc; subst hc; exact by unfold NumC; decide
  have n46 : ∀ c ∈ [(46 : UInt8)], NumC c := by intro c hc; simp at hc; subst hc; exact by unfold NumC; decide
  have ne : ∀ c ∈ [(101 : UInt8), 69], NumC c := by intro c hc; simp at hc; rcases hc with rfl | rfl <;> (unfold NumC; decide)
  have ns : ∀ c ∈ [(43 : UInt8), 45], NumC c := by intro c hc; simp at hc; rcases hc with rfl | rfl <;> (unfold NumC; decide)
  have h4 : ∀ c ∈ pl4 l, NumC c := by
    split at h
    · cases h
    · split at h
      · split at h
        · cases h
        · have h6 : dropD (pl6 l) = [] := List.isEmpty_iff.1 h
          have a6 : ∀ c ∈ pl6 l, NumC c := all_dropD (by rw [h6]; intro c hc; cases hc)
          have a5 : ∀ c ∈ pl5 l, NumC c := all_dropS ns a6
          exact all_dropS ne a5
      · have h6 : pl4 l = [] := List.isEmpty_iff.1 h
        rw [h6]; intro c hc; cases hc
  have h3 : ∀ c ∈ pl3 l, NumC c := by
    unfold pl4 at h4
    split at h4
    · exact all_dropD h4
    · exact h4
  have h2 : ∀ c ∈ pl2 l, NumC c := all_dropS n46 h3
  have h1 : ∀ c ∈ pl1 l, NumC c := all_dropD h2
  exact all_dropS n45 h1
theorem plain_numT {l : List UInt8} (h : plainV l = true) (hl : l.length ≤ 200) (hf : ∀ c, l[0]? = some c → (48 ≤ c.toNat ∧ c.toNat ≤ 57) ∨ c.toNat = 46) : NumT l :=
  ⟨hl, fun i c hc => plain_all h c (List.mem_of_getElem? hc), hf⟩
end Go.Proofs.YtjleceekccehoaaGreatDoor.Pr
end
