/- Texts of this session, cut down to what one claim needs and joined: FfRPlain, LexW, LexB. -/
import Derived.Test.YtjleceekccehoaaGreatDoorVGJ14
import Derived.Test.YtjleceekccehoaaGreatDoorVPrSoundingsref04Plain
import Derived.Test.YtjleceekccehoaaGreatDoorVGJ2
import Derived.Deep.LoopGhost
import Derived.Lib.Strings
section
set_option linter.unusedVariables false
set_option linter.unusedSimpArgs false
namespace Go.Proofs.YtjleceekccehoaaGreatDoor.Pr
open Go.RowKit Go.Proofs.YtjleceekccehoaaGreatDoorW.PrintWords Go.Proofs.YtjleceekccehoaaGreatDoorW.PrintLast Go.Proofs.YtjleceekccehoaaGreatDoorW.PrintMore

/-- s is what stands at place i of l. -/
structure At (l : List UInt8) (i : Nat) (s : List UInt8) : Prop where
 le : i ≤ l.length
 eq : l.drop i = s
theorem At.len {l s : List UInt8} {i : Nat} (h : At l i s) : i + s.length = l.length := by have := h.le; rw [← h.eq, List.length_drop]; omega
theorem At.nil {l : List UInt8} {i : Nat} (h : At l i []) : i = l.length := by have := h.len; simpa using this
theorem At.lt {l r : List UInt8} {c : UInt8} {i : Nat} (h : At l i (c :: r)) : i < l.length := by have := h.len; simp at this; omega
theorem At.byte {l r : List UInt8} {c : UInt8} {i : Nat} (h : At l i (c :: r)) : bt (bs l) (i : Int) = (c.toNat : Int) := by
 have hlt := h.lt
 have e : l[i] = c := by
  have h1 := List.drop_eq_getElem_cons hlt
  rw [h.eq] at h1
  injection h1 with h1 _
  exact h1.symm
 have hs := bs_size l
 unfold bt
 rw [dif_pos (by simp; omega)]
 simp only [Int.toNat_natCast]
 rw [← e]; rfl
theorem At.next {l r : List UInt8} {c : UInt8} {i : Nat} (h : At l i (c :: r)) : At l (i + 1) r := by
 refine ⟨h.lt, ?_⟩
 have h1 := List.drop_eq_getElem_cons h.lt
 rw [h.eq] at h1
 injection h1 with _ h2
 exact h2.symm
theorem dgs_iff (c : UInt8) : dgs.contains c = decide (48 ≤ c.toNat ∧ c.toNat ≤ 57) := by
 have : ∀ n : Fin 256, dgs.contains (UInt8.ofNat n.val) = decide (48 ≤ (UInt8.ofNat n.val).toNat ∧ (UInt8.ofNat n.val).toNat ≤ 57) := by decide +kernel
 have h := this ⟨c.toNat, c.toNat_lt⟩
 simpa using h
theorem cnt_cons (c : UInt8) (r : List UInt8) : cntD (c :: r) = if dgs.contains c = true then 1 + cntD r else 0 := by
 unfold cntD dropD
 rw [List.dropWhile_cons]
 split
 ·simp; omega
 ·simp
theorem cnt_nil : cntD [] = 0 := rfl
theorem At.skip {l : List UInt8} : ∀ {s : List UInt8} {i : Nat}, At l i s → At l (i + (cntD s).toNat) (dropD s) := by
 intro s
 induction s with
 | nil => intro i h; simpa [cntD, dropD] using h
 | cons c r ih =>
  intro i h
  rw [cnt_cons]
  have hd : dropD (c :: r) = if dgs.contains c = true then dropD r else c :: r := by unfold dropD; rw [List.dropWhile_cons]
  rw [hd]
  split
  ·have := ih h.next
   have hc := (cntD_bd r).1
   rw [show i + (1 + cntD r).toNat = i + 1 + (cntD r).toNat from by omega]
   exact this
  ·simpa using h
theorem digits_l0 (l : List UInt8) (hl : l.length ≤ 1000000) (x : Nat) : ∀ (k n : Nat) (s : List UInt8), At l (x + n) s → s.length < k → soundingsref04_digits.l0 k (bs l) x n = some ((n : Int) + cntD s) := by
 intro k
 induction k with
 | zero => intro n s h hk; omega
 | succ k ih =>
  intro n s h hk
  have hs := bs_size l
  have hlen := h.len
  have hw : wrap64 ((x : Int) + (n : Int)) = ((x + n : Nat) : Int) := by unfold wrap64; omega
  unfold soundingsref04_digits.l0
  rw [hw]
  cases s with
  | nil =>
   have := h.nil
   rw [if_neg (by omega)]
   simp [cnt_nil]
  | cons c r =>
   have hlt := h.lt
   rw [if_pos (by omega), if_pos (by omega), h.byte, cnt_cons, dgs_iff]
   have hc := c.toNat_lt
   have hf : soundingsref04_digit.f (c.toNat : Int) = some (decide (48 ≤ c.toNat ∧ c.toNat ≤ 57)) := by
    unfold soundingsref04_digit.f
    split
    ·congr 1; apply decide_eq_decide.2; omega
    ·congr 1; symm; apply decide_eq_false; omega
   rw [hf]
   simp only [Option.bind_some]
   by_cases hd : 48 ≤ c.toNat ∧ c.toNat ≤ 57
   ·rw [decide_eq_true hd, if_pos rfl, if_pos rfl]
    have hw2 : wrap64 ((n : Int) + 1) = ((n + 1 : Nat) : Int) := by unfold wrap64; omega
    rw [hw2, ih (n + 1) r (by have := h.next; rwa [Nat.add_assoc] at this) (by simp at hk; omega)]
    congr 1; omega
   ·rw [decide_eq_false hd]; simp
theorem digits_f (l : List UInt8) (hl : l.length ≤ 1000000) (k i : Nat) (s : List UInt8) (h : At l i s) (hk : l.length < k) : soundingsref04_digits.f k (bs l) i = some (cntD s) := by
 have := digits_l0 l hl i k 0 s (by simpa using h) (by have := h.len; omega)
 unfold soundingsref04_digits.f
 simpa using this
end Go.Proofs.YtjleceekccehoaaGreatDoor.Pr
end

section
set_option linter.unusedVariables false
set_option linter.unusedSimpArgs false
namespace Go.Proofs.YtjleceekccehoaaGreatDoor.Pr
open Go.RowKit Go.Proofs.YtjleceekccehoaaGreatDoorW.PrintWords Go.Proofs.YtjleceekccehoaaGreatDoorW.PrintLast Go.Proofs.YtjleceekccehoaaGreatDoorW.PrintMore

def isLet (z : Nat) : Bool := z == 95 || z == 58 || (decide (97 ≤ z) && decide (z ≤ 122)) || (decide (65 ≤ z) && decide (z ≤ 90))
def isDig (z : Nat) : Bool := decide (48 ≤ z) && decide (z ≤ 57)
set_option maxHeartbeats 1000000 in
set_option maxRecDepth 100000 in
theorem digit_any (z : Nat) (w : World) : Calls Tryz.prog 72 #[.int .u8 z] w fun e w' => e = .returned (.bool (isDig z)) ∧ w = w' := by
 by_cases h1 : 48 ≤ z
 ·have t1 : (z : Int) ≥ 48 := by omega
  by_cases h2 : z ≤ 57
  ·have t2 : (z : Int) ≤ 57 := by omega
   have hv : isDig z = true := by simp [isDig, h1, h2]
   rw [hv]
   clear hv
   go_enter Tryz.func72, Tryz.ntmps72
   go_wp2_with fail
   go_ret
   exact ⟨rfl, rfl⟩
  ·have t2 : ((z : Int) ≤ 57) = False := eq_false (by omega)
   have hv : isDig z = false := by simp [isDig, h1, h2]
   rw [hv]
   clear hv
   go_enter Tryz.func72, Tryz.ntmps72
   go_wp2_with fail
   go_ret
   exact ⟨rfl, rfl⟩
 ·have t1 : ((z : Int) ≥ 48) = False := eq_false (by omega)
  have hv : isDig z = false := by simp [isDig, h1]
  rw [hv]
  clear hv
  go_enter Tryz.func72, Tryz.ntmps72
  go_wp2_with fail
  go_ret
  exact ⟨rfl, rfl⟩
/-- A byte test: function f with captures cs tells p of a byte, and leaves what is there. -/
def TellsL (f : FuncId) (p : Nat → Bool) : Prop := ∀ (z : Nat) (w : World), z < 256 → Calls Tryz.prog f #[.int .u8 z] w fun e w' => e = .returned (.bool (p z)) ∧ Below w.heap.size w w'
set_option maxHeartbeats 1000000 in
set_option maxRecDepth 100000 in
theorem blank2_any : TellsL 48 (fun z => z != 10) := by
 intro z w hz
 by_cases h : z = 10
 ·have t : ((z : Int) != 10) = false := by rw [bne_eq_false_iff_eq]; omega
  have hv : (z != 10) = false := by rw [bne_eq_false_iff_eq]; exact h
  show Calls _ _ _ _ fun e w' => e = .returned (.bool (z != 10)) ∧ _
  rw [hv]
  clear hv h
  go_enter Tryz.func48, Tryz.ntmps48
  go_wp2_with fail
  go_ret
  exact ⟨rfl, Below.refl _ _⟩
 ·have t : ((z : Int) != 10) = true := by rw [bne_iff_ne]; omega
  have hv : (z != 10) = true := by rw [bne_iff_ne]; exact h
  show Calls _ _ _ _ fun e w' => e = .returned (.bool (z != 10)) ∧ _
  rw [hv]
  clear hv h
  go_enter Tryz.func48, Tryz.ntmps48
  go_wp2_with fail
  go_ret
  exact ⟨rfl, Below.refl _ _⟩
/-- How many bytes from here on are so. -/
def run (p : Nat → Bool) : List UInt8 → Nat
 | [] => 0
 | c :: r => if p c.toNat = true then run p r + 1 else 0
/-- A rest in memory: a query, and the place where it goes on. -/
structure RBox (w0 w : World) (g : Nat) (l : List UInt8) (i : Nat) : Prop where
 blk : w.heap[g]? = some (.cells #[.string (bs l), .int .i64 i] 57 (0, 0))
 ge : w0.heap.size ≤ g
 bel : Below w0.heap.size w0 w
section
variable {w0 w w' : World} {g : Nat} {l : List UInt8} {i : Nat}
theorem RBox.lt (h : RBox w0 w g l i) : g < w.heap.size := by
 have h1 := h.blk
 rcases Nat.lt_or_ge g w.heap.size with hlt | hge
 ·exact hlt
 ·rw [Array.getElem?_eq_none hge] at h1; cases h1
theorem RBox.below (h : RBox w0 w g l i) (hb : Below w.heap.size w w') : RBox w0 w' g l i := ⟨(hb.block g h.lt).trans h.blk, h.ge, below_step h.bel hb⟩
theorem RBox.c0 (h : RBox w0 w g l i) : w.cell? ⟨g, 0, none⟩ = some (.string (bs l)) := (blk_cell h.blk 0).trans rfl
theorem RBox.c1 (h : RBox w0 w g l i) : w.cell? ⟨g, 1, none⟩ = some (.int .i64 i) := (blk_cell h.blk 1).trans rfl
theorem RBox.new (w : World) (l : List UInt8) (i : Nat) (hb : Below w0.heap.size w0 w) : RBox w0 (w.alloc (.cells #[.string (bs l), .int .i64 i] 57)) w.heap.size l i :=
 ⟨heap_alloc_new w _, hb.size, below_alloc hb _⟩
end
theorem bs_mid (l : List UInt8) (a b : Nat) : (bs l).extract a b = bs ((l.drop a).take (b - a)) := by rw [Go.Lib.extract_eq]; simp [bs]
theorem run_le (p : Nat → Bool) (s : List UInt8) : run p s ≤ s.length := by
 induction s with
 | nil => exact Nat.le_refl _
 | cons c r ih => unfold run; split <;> simp <;> omega
set_option maxHeartbeats 1000000 in
set_option maxRecDepth 100000 in
theorem while_any (f : FuncId) (p : Nat → Bool) (hT : TellsL f p) (he : ∀ args w, (callFunc f args).run Tryz.prog w = .ok (.enter f args) w) (l : List UInt8) (hl : l.length ≤ 1000000) (i : Nat) (s : List UInt8) (hA : At l i s) (w : World) :
  Calls Tryz.prog 45 #[.agg #[.string (bs l), .int .i64 i], .func (.func f) #[] #[]] w fun e w' => e = .returned (.string (bs (s.take (run p s)))) ∧ Below w.heap.size w w' := by
 have hsz := bs_size l
 have hil := hA.le
 have HA := Aside0.mk hA
 have HR := Aside0.mk (run_le p s)
 have HLN := Aside0.mk hA.len
 have HT := Aside0.mk hT
 clear hA hT
 go_enter Tryz.func45, Tryz.ntmps45
 have HB := Aside0.mk (RBox.new (w0 := w) w l i (Below.refl _ _))
 have x0 := HB.out.c0
 have x1 := HB.out.c1
 go_wp2_with fail
 go_loopg [5] s.length (fun q v5 wr => ∃ (j : Nat) (r : List UInt8), v5 = .int .i64 (j : Int) ∧ q = r.length ∧ j ≤ l.length ∧ Aside0 (At l j r ∧ j + run p r = i + run p s) ∧ Aside0 (RBox w wr w.heap.size l i))
 case atStart => exact ⟨i, s, rfl, rfl, hil, ⟨HA.out, rfl⟩, HB⟩
 case round =>
  clear HB x0 x1
  obtain ⟨j, r, h5, hq, hj, HJ, HB⟩ := hrel
  have HQ := Aside0.mk hq
  have x0 := HB.out.c0
  have x1 := HB.out.c1
  clear hq
  subst h5
  cases r with
  | nil =>
   have hjl := HJ.out.1.nil
   have t3 : ((j : Int) < (l.length : Int)) = False := eq_false (by omega)
   have HV : Aside0 (j = i + run p s) := ⟨by have := HJ.out.2; simpa [run] using this⟩
   have t4 : (i : Int) ≤ (j : Int) := by have := HV.out; omega
   have t5 : (j : Int) ≤ (l.length : Int) := by omega
   have t6 : (0 : Int) ≤ (i : Int) := by omega
   have hx : (bs l).extract i j = bs (s.take (run p s)) := by rw [bs_mid, HA.out.eq, show j - i = run p s from by have := HV.out; omega]
   clear hjl
   go_wp2_with fail
   go_ret
   exact ⟨by first | rfl | simp, HB.out.bel⟩
  | cons c r =>
   have hlt := HJ.out.1.lt
   have hb := HJ.out.1.byte
   have hz : ∀ h : j < (bs l).size, ((bs l)[j]'h).toNat = c.toNat := fun h => by
    have h1 := hb
    unfold bt at h1
    rw [dif_pos (by simpa using h)] at h1
    simp only [Int.toNat_natCast] at h1
    omega
   obtain ⟨z, hzz⟩ : ∃ z, c.toNat = z := ⟨_, rfl⟩
   have hz2 : z < 256 := by rw [← hzz]; exact c.toNat_lt
   have HZ := Aside0.mk hzz
   rw [hzz] at hz
   have t2 : (0 : Int) ≤ (j : Int) := by omega
   have t3 : (j : Int) < (l.length : Int) := by omega
   clear hb hlt hzz
   obtain ⟨b, hpb⟩ : ∃ b, p z = b := ⟨_, rfl⟩
   have HPB := Aside0.mk hpb
   clear hpb
   go_wp2_with fail
   refine (HT.out z _ hz2).mono ?_
   rw [HPB.out]
   rintro e_ w2 ⟨rfl, hb2⟩
   have HB2 := Aside0.mk (HB.out.below hb2)
   have y0 := HB2.out.c0
   have y1 := HB2.out.c1
   clear hb2 HB x0 x1
   cases b
   ·have HV : Aside0 (j = i + run p s) := ⟨by have := HJ.out.2; rw [run, if_neg (by rw [HZ.out, HPB.out]; simp)] at this; omega⟩
    have t4 : (i : Int) ≤ (j : Int) := by have := HV.out; omega
    have t5 : (j : Int) ≤ (l.length : Int) := by omega
    have t6 : (0 : Int) ≤ (i : Int) := by omega
    have hx : (bs l).extract i j = bs (s.take (run p s)) := by rw [bs_mid, HA.out.eq, show j - i = run p s from by have := HV.out; omega]
    go_wp2_with fail
    go_ret
    exact ⟨by first | rfl | simp, HB2.out.bel⟩
   ·go_wp2_with fail
    go_roundg r.length
    case measure => have := HQ.out; simp at this; omega
    case rel => exact ⟨j + 1, r, by go_num, rfl, HJ.out.1.next.le, ⟨HJ.out.1.next, by have := HJ.out.2; rw [run, if_pos (by rw [HZ.out, HPB.out])] at this; omega⟩, HB2⟩
end Go.Proofs.YtjleceekccehoaaGreatDoor.Pr
end

section
set_option linter.unusedVariables false
set_option linter.unusedSimpArgs false
namespace Go.Proofs.YtjleceekccehoaaGreatDoor.Pr
open Go.RowKit Go.Proofs.YtjleceekccehoaaGreatDoorW.PrintWords Go.Proofs.YtjleceekccehoaaGreatDoorW.PrintLast Go.Proofs.YtjleceekccehoaaGreatDoorW.PrintMore

theorem isLet_iff (z : Nat) : isLet z = decide (z = 95 ∨ z = 58 ∨ (97 ≤ z ∧ z ≤ 122) ∨ (65 ≤ z ∧ z ≤ 90)) := by
 unfold isLet
 rw [Bool.eq_iff_iff]
 simp
 omega
set_option maxHeartbeats 4000000 in
set_option maxRecDepth 100000 in
theorem letter_any (z : Nat) (w : World) : Calls Tryz.prog 70 #[.int .u8 z] w fun e w' => e = .returned (.bool (isLet z)) ∧ w = w' := by
 obtain ⟨b, hb⟩ : ∃ b, isLet z = b := ⟨_, rfl⟩
 have hi := isLet_iff z
 rw [hb] at hi ⊢
 clear hb
 have t1 : ((z : Int) == 95) = decide (z = 95) := by rw [Bool.eq_iff_iff]; simp; omega
 have t2 : ((z : Int) == 58) = decide (z = 58) := by rw [Bool.eq_iff_iff]; simp; omega
 by_cases h1 : z = 95
 ·rw [decide_eq_true h1] at t1
  obtain rfl : b = true := by rw [hi]; exact decide_eq_true (by omega)
  clear hi h1 t2
  go_enter Tryz.func70, Tryz.ntmps70
  go_wp2_with fail
  go_ret
  exact ⟨rfl, rfl⟩
 rw [decide_eq_false h1] at t1
 by_cases h2 : z = 58
 ·rw [decide_eq_true h2] at t2
  obtain rfl : b = true := by rw [hi]; exact decide_eq_true (by omega)
  clear hi h1 h2
  go_enter Tryz.func70, Tryz.ntmps70
  go_wp2_with fail
  go_ret
  exact ⟨rfl, rfl⟩
 rw [decide_eq_false h2] at t2
 by_cases h3 : 97 ≤ z
 ·have s3 : (z : Int) ≥ 97 := by omega
  have s5 : (z : Int) ≥ 65 := by omega
  have s6 : ((z : Int) ≤ 90) = False := eq_false (by omega)
  by_cases h4 : z ≤ 122
  ·have s4 : (z : Int) ≤ 122 := by omega
   obtain rfl : b = true := by rw [hi]; exact decide_eq_true (by omega)
   clear hi h1 h2 h3 h4
   go_enter Tryz.func70, Tryz.ntmps70
   go_wp2_with fail
   go_ret
   exact ⟨rfl, rfl⟩
  ·have s4 : ((z : Int) ≤ 122) = False := eq_false (by omega)
   obtain rfl : b = false := by rw [hi]; exact decide_eq_false (by omega)
   clear hi h1 h2 h3 h4
   go_enter Tryz.func70, Tryz.ntmps70
   go_wp2_with fail
   go_ret
   exact ⟨rfl, rfl⟩
 ·have s3 : ((z : Int) ≥ 97) = False := eq_false (by omega)
  by_cases h4 : 65 ≤ z
  ·have s5 : (z : Int) ≥ 65 := by omega
   by_cases h5 : z ≤ 90
   ·have s6 : (z : Int) ≤ 90 := by omega
    obtain rfl : b = true := by rw [hi]; exact decide_eq_true (by omega)
    clear hi h1 h2 h3 h4 h5
    go_enter Tryz.func70, Tryz.ntmps70
    go_wp2_with fail
    go_ret
    exact ⟨rfl, rfl⟩
   ·have s6 : ((z : Int) ≤ 90) = False := eq_false (by omega)
    obtain rfl : b = false := by rw [hi]; exact decide_eq_false (by omega)
    clear hi h1 h2 h3 h4 h5
    go_enter Tryz.func70, Tryz.ntmps70
    go_wp2_with fail
    go_ret
    exact ⟨rfl, rfl⟩
  ·have s5 : ((z : Int) ≥ 65) = False := eq_false (by omega)
   obtain rfl : b = false := by rw [hi]; exact decide_eq_false (by omega)
   clear hi h1 h2 h3 h4
   go_enter Tryz.func70, Tryz.ntmps70
   go_wp2_with fail
   go_ret
   exact ⟨rfl, rfl⟩
set_option maxHeartbeats 4000000 in
set_option maxRecDepth 100000 in
theorem word1_any : TellsL 71 (fun z => isLet z || isDig z) := by
 intro z w hz
 show Calls _ _ _ _ fun e w' => e = .returned (.bool (isLet z || isDig z)) ∧ _
 obtain ⟨a, ha⟩ : ∃ a, isLet z = a := ⟨_, rfl⟩
 obtain ⟨d, hd⟩ : ∃ a, isDig z = a := ⟨_, rfl⟩
 rw [ha, hd]
 have HA := Aside0.mk ha
 have HD := Aside0.mk hd
 clear ha hd
 cases a
 all_goals
  go_enter Tryz.func71, Tryz.ntmps71
  go_wp2_with (first | (go_at_call 70; refine (letter_any z _).mono ?_; rw [HA.out]; rintro e_ w' ⟨rfl, rfl⟩) | (go_at_call 72; refine (digit_any z _).mono ?_; rw [HD.out]; rintro e_ w' ⟨rfl, rfl⟩))
  go_ret
  exact ⟨by first | rfl | simp, Below.refl _ _⟩
def isBlk (z : Nat) : Bool := z == 32 || z == 9 || z == 10 || z == 13
set_option maxHeartbeats 4000000 in
set_option maxRecDepth 100000 in
theorem blank1_any : TellsL 46 isBlk := by
 intro z w hz
 obtain ⟨iv, hiv⟩ : ∃ iv, Lib.indexByte [32, 9, 10, 13] z.toUInt8 = iv := ⟨_, rfl⟩
 have hv : isBlk z = decide (0 ≤ iv) := by
  rw [← hiv]
  have h : ((List.range 256).all fun z => isBlk z == decide (0 ≤ Lib.indexByte [32, 9, 10, 13] z.toUInt8)) = true := by decide +kernel
  exact beq_iff_eq.1 (List.all_eq_true.1 h z (List.mem_range.2 hz))
 rw [hv]
 have HX : Aside0 (∀ w, Calls Tryz.prog 47 #[.string ⟨#[32, 9, 10, 13]⟩, .int .u8 z] w fun e w' => e = .returned (.int .i64 iv) ∧ w = w') := ⟨fun w => (Any.strings_IndexByte Tryz.lays137 ⟨#[32, 9, 10, 13]⟩ _ w).mono fun e w' h => ⟨by rw [h.1, ← hiv]; simp, h.2.symm⟩⟩
 clear hv hiv
 go_enter Tryz.func46, Tryz.ntmps46
 go_wp2_with (go_at_call 47; refine (HX.out _).mono ?_; rintro e_ w' ⟨rfl, rfl⟩)
 go_ret
 exact ⟨by first | rfl | simp, Below.refl _ _⟩
end Go.Proofs.YtjleceekccehoaaGreatDoor.Pr
end
