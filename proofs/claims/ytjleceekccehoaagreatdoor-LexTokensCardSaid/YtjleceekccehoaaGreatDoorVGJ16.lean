/- Texts of this session, cut down to what one claim needs and joined: LexN, LexS, LexC. -/
import Derived.Test.YtjleceekccehoaaGreatDoorVGJ15
section
set_option linter.unusedVariables false
set_option linter.unusedSimpArgs false
namespace Go.Proofs.YtjleceekccehoaaGreatDoor.Pr
open Go.RowKit Go.Proofs.YtjleceekccehoaaGreatDoorW.PrintWords Go.Proofs.YtjleceekccehoaaGreatDoorW.PrintLast Go.Proofs.YtjleceekccehoaaGreatDoorW.PrintMore

/-- Two variables that a closure shares with its maker: block a holds a bool, block b a byte. -/
structure NBox (w0 w : World) (a b : Nat) (pl : Bool) (was : Nat) : Prop where
 ba : w.heap[a]? = some (.cells #[.bool pl] 4 (0, 0))
 bb : w.heap[b]? = some (.cells #[.int .u8 was] 5 (0, 0))
 ga : w0.heap.size ≤ a
 gb : w0.heap.size ≤ b
 ne : a ≠ b
 bel : Below w0.heap.size w0 w
theorem heap_set_ne (w : World) (a g : Nat) (v : Value) (h : g ≠ a) : (w.setCell ⟨a, 0, none⟩ v).heap[g]? = w.heap[g]? := by
 simp [World.setCell, Array.getElem?_modify, Ne.symm h]
theorem heap_set_eq (w : World) (a : Nat) (v u : Value) (t : TypeId) (h : w.heap[a]? = some (.cells #[u] t (0, 0))) : (w.setCell ⟨a, 0, none⟩ v).heap[a]? = some (.cells #[v] t (0, 0)) := by
 simp [World.setCell, Array.getElem?_modify, h]
theorem heap_lt {w : World} {g : Nat} {o : Obj} (h : w.heap[g]? = some o) : g < w.heap.size := by
 rcases Nat.lt_or_ge g w.heap.size with hlt | hge
 ·exact hlt
 ·rw [Array.getElem?_eq_none hge] at h; cases h
section
variable {w0 w w' : World} {a b : Nat} {pl : Bool} {was : Nat}
theorem NBox.ca (h : NBox w0 w a b pl was) : w.cell? ⟨a, 0, none⟩ = some (.bool pl) := (blk_cell h.ba 0).trans rfl
theorem NBox.cb (h : NBox w0 w a b pl was) : w.cell? ⟨b, 0, none⟩ = some (.int .u8 was) := (blk_cell h.bb 0).trans rfl
theorem NBox.fa (h : NBox w0 w a b pl was) : w.frozen? ⟨a, 0, none⟩ = false := by have h1 := h.ba; simp [World.frozen?, h1]
theorem NBox.fb (h : NBox w0 w a b pl was) : w.frozen? ⟨b, 0, none⟩ = false := by have h1 := h.bb; simp [World.frozen?, h1]
theorem NBox.setA (h : NBox w0 w a b pl was) (p : Bool) : NBox w0 (w.setCell ⟨a, 0, none⟩ (.bool p)) a b p was :=
 ⟨heap_set_eq _ _ _ _ _ h.ba, (heap_set_ne _ _ _ _ (Ne.symm h.ne)).trans h.bb, h.ga, h.gb, h.ne, below_set h.bel h.ga⟩
theorem NBox.setB (h : NBox w0 w a b pl was) (z : Nat) : NBox w0 (w.setCell ⟨b, 0, none⟩ (.int .u8 z)) a b pl z :=
 ⟨(heap_set_ne _ _ _ _ h.ne).trans h.ba, heap_set_eq _ _ _ _ _ h.bb, h.ga, h.gb, h.ne, below_set h.bel h.gb⟩
theorem NBox.below (h : NBox w0 w a b pl was) (hb : Below w.heap.size w w') : NBox w0 w' a b pl was :=
 ⟨(hb.block a (heap_lt h.ba)).trans h.ba, (hb.block b (heap_lt h.bb)).trans h.bb, h.ga, h.gb, h.ne, below_step h.bel hb⟩
end
/-- All blocks but two are as they were. -/
def Keep (a b : Nat) (w w' : World) : Prop := ∀ g, g ≠ a → g ≠ b → w'.heap[g]? = w.heap[g]?
theorem Keep.setB (a b : Nat) (w : World) (v : Value) : Keep a b w (w.setCell ⟨b, 0, none⟩ v) := fun g _ h2 => heap_set_ne _ _ _ _ h2
theorem Keep.setAB (a b : Nat) (w : World) (v u : Value) : Keep a b w ((w.setCell ⟨a, 0, none⟩ v).setCell ⟨b, 0, none⟩ u) := fun g h1 h2 => (heap_set_ne _ _ _ _ h2).trans (heap_set_ne _ _ _ _ h1)
def isE (z : Nat) : Bool := z == 101 || z == 69
def isSg (z : Nat) : Bool := z == 43 || z == 45
def okS (pl : Bool) (was z : Nat) : Bool := isLet z || isDig z || z == 46 || (isSg z && pl && isE was)
def plS (pl : Bool) (was : Nat) : Bool := if was = 0 then pl else pl && (isDig was || was == 46)
theorem ieq (z n : Nat) : ((z : Int) == (n : Int)) = (z == n) := by rw [Bool.eq_iff_iff]; simp; omega
theorem ine (z n : Nat) : ((z : Int) != (n : Int)) = (z != n) := by simp only [bne, ieq]

set_option maxHeartbeats 8000000 in
set_option maxRecDepth 100000 in
theorem num1_core (z was a b : Nat) (pl la dg p46 p43 p45 e101 e69 n0 wd w46 : Bool) (w0 w : World) (h : NBox w0 w a b pl was)
  (hla : isLet z = la) (hdg : isDig z = dg) (h46 : (z == 46) = p46) (h43 : (z == 43) = p43) (h45 : (z == 45) = p45) (he : (was == 101) = e101) (hE : (was == 69) = e69) (hn0 : (was != 0) = n0) (hwd : isDig was = wd) (hw46 : (was == 46) = w46)
  (ok : Bool) (hok : (la || dg || p46 || ((p43 || p45) && pl && (e101 || e69))) = ok) (pn : Bool) (hpn : (if n0 = true then pl && (wd || w46) else pl) = pn) :
  Calls Tryz.prog 73 #[.int .u8 z, .pointer (some ⟨a, 0, none⟩), .pointer (some ⟨b, 0, none⟩)] w fun e w' => e = .returned (.bool ok) ∧ NBox w0 w' a b pn z ∧ Keep a b w w' := by
 have HLA := Aside0.mk hla
 have HDG := Aside0.mk hdg
 have HWD := Aside0.mk hwd
 have HN := Aside0.mk h
 have t46 : ((z : Int) == 46) = p46 := (ieq z 46).trans h46
 have t43 : ((z : Int) == 43) = p43 := (ieq z 43).trans h43
 have t45 : ((z : Int) == 45) = p45 := (ieq z 45).trans h45
 have u101 : ((was : Int) == 101) = e101 := (ieq was 101).trans he
 have u69 : ((was : Int) == 69) = e69 := (ieq was 69).trans hE
 have u0 : ((was : Int) != 0) = n0 := (ine was 0).trans hn0
 have u46 : ((was : Int) == 46) = w46 := (ieq was 46).trans hw46
 have xa := h.ca
 have xb := h.cb
 have fa := h.fa
 have fb := h.fb
 have ne1 := h.ne
 have ne2 := Ne.symm h.ne
 subst hok
 subst hpn
 clear hla hdg h46 h43 h45 he hE hn0 hwd hw46 h
 cases la
 ·cases dg
  ·cases p46
   ·cases p43
    ·cases p45
     ·cases n0
      ·go_enter Tryz.func73, Tryz.ntmps73
       go_wp2_with (first | (go_at_call 70; refine (letter_any z _).mono ?_; rw [HLA.out]; rintro e_ w' ⟨rfl, rfl⟩) | (go_at_call 72; with_reducible refine (digit_any z _).mono ?_; rw [HDG.out]; rintro e_ w' ⟨rfl, rfl⟩) | (go_at_call 72; with_reducible refine (digit_any was _).mono ?_; rw [HWD.out]; rintro e_ w' ⟨rfl, rfl⟩))
       go_ret
       exact ⟨by first | rfl | simp, HN.out.setB z, Keep.setB _ _ _ _⟩
      ·cases pl
       ·go_enter Tryz.func73, Tryz.ntmps73
        go_wp2_with (first | (go_at_call 70; refine (letter_any z _).mono ?_; rw [HLA.out]; rintro e_ w' ⟨rfl, rfl⟩) | (go_at_call 72; with_reducible refine (digit_any z _).mono ?_; rw [HDG.out]; rintro e_ w' ⟨rfl, rfl⟩) | (go_at_call 72; with_reducible refine (digit_any was _).mono ?_; rw [HWD.out]; rintro e_ w' ⟨rfl, rfl⟩))
        go_ret
        exact ⟨by first | rfl | simp, (HN.out.setA _).setB z, Keep.setAB _ _ _ _ _⟩
       ·cases wd
        ·cases w46
         ·go_enter Tryz.func73, Tryz.ntmps73
          go_wp2_with (first | (go_at_call 70; refine (letter_any z _).mono ?_; rw [HLA.out]; rintro e_ w' ⟨rfl, rfl⟩) | (go_at_call 72; with_reducible refine (digit_any z _).mono ?_; rw [HDG.out]; rintro e_ w' ⟨rfl, rfl⟩) | (go_at_call 72; with_reducible refine (digit_any was _).mono ?_; rw [HWD.out]; rintro e_ w' ⟨rfl, rfl⟩))
          go_ret
          exact ⟨by first | rfl | simp, (HN.out.setA _).setB z, Keep.setAB _ _ _ _ _⟩
         ·go_enter Tryz.func73, Tryz.ntmps73
          go_wp2_with (first | (go_at_call 70; refine (letter_any z _).mono ?_; rw [HLA.out]; rintro e_ w' ⟨rfl, rfl⟩) | (go_at_call 72; with_reducible refine (digit_any z _).mono ?_; rw [HDG.out]; rintro e_ w' ⟨rfl, rfl⟩) | (go_at_call 72; with_reducible refine (digit_any was _).mono ?_; rw [HWD.out]; rintro e_ w' ⟨rfl, rfl⟩))
          go_ret
          exact ⟨by first | rfl | simp, (HN.out.setA _).setB z, Keep.setAB _ _ _ _ _⟩
        ·go_enter Tryz.func73, Tryz.ntmps73
         go_wp2_with (first | (go_at_call 70; refine (letter_any z _).mono ?_; rw [HLA.out]; rintro e_ w' ⟨rfl, rfl⟩) | (go_at_call 72; with_reducible refine (digit_any z _).mono ?_; rw [HDG.out]; rintro e_ w' ⟨rfl, rfl⟩) | (go_at_call 72; with_reducible refine (digit_any was _).mono ?_; rw [HWD.out]; rintro e_ w' ⟨rfl, rfl⟩))
         go_ret
         exact ⟨by first | rfl | simp, (HN.out.setA _).setB z, Keep.setAB _ _ _ _ _⟩
     ·cases pl
      ·cases n0
       ·go_enter Tryz.func73, Tryz.ntmps73
        go_wp2_with (first | (go_at_call 70; refine (letter_any z _).mono ?_; rw [HLA.out]; rintro e_ w' ⟨rfl, rfl⟩) | (go_at_call 72; with_reducible refine (digit_any z _).mono ?_; rw [HDG.out]; rintro e_ w' ⟨rfl, rfl⟩) | (go_at_call 72; with_reducible refine (digit_any was _).mono ?_; rw [HWD.out]; rintro e_ w' ⟨rfl, rfl⟩))
        go_ret
        exact ⟨by first | rfl | simp, HN.out.setB z, Keep.setB _ _ _ _⟩
       ·go_enter Tryz.func73, Tryz.ntmps73
        go_wp2_with (first | (go_at_call 70; refine (letter_any z _).mono ?_; rw [HLA.out]; rintro e_ w' ⟨rfl, rfl⟩) | (go_at_call 72; with_reducible refine (digit_any z _).mono ?_; rw [HDG.out]; rintro e_ w' ⟨rfl, rfl⟩) | (go_at_call 72; with_reducible refine (digit_any was _).mono ?_; rw [HWD.out]; rintro e_ w' ⟨rfl, rfl⟩))
        go_ret
        exact ⟨by first | rfl | simp, (HN.out.setA _).setB z, Keep.setAB _ _ _ _ _⟩
      ·cases e101
       ·cases e69
        ·cases n0
         ·go_enter Tryz.func73, Tryz.ntmps73
          go_wp2_with (first | (go_at_call 70; refine (letter_any z _).mono ?_; rw [HLA.out]; rintro e_ w' ⟨rfl, rfl⟩) | (go_at_call 72; with_reducible refine (digit_any z _).mono ?_; rw [HDG.out]; rintro e_ w' ⟨rfl, rfl⟩) | (go_at_call 72; with_reducible refine (digit_any was _).mono ?_; rw [HWD.out]; rintro e_ w' ⟨rfl, rfl⟩))
          go_ret
          exact ⟨by first | rfl | simp, HN.out.setB z, Keep.setB _ _ _ _⟩
         ·cases wd
          ·cases w46
           ·go_enter Tryz.func73, Tryz.ntmps73
            go_wp2_with (first | (go_at_call 70; refine (letter_any z _).mono ?_; rw [HLA.out]; rintro e_ w' ⟨rfl, rfl⟩) | (go_at_call 72; with_reducible refine (digit_any z _).mono ?_; rw [HDG.out]; rintro e_ w' ⟨rfl, rfl⟩) | (go_at_call 72; with_reducible refine (digit_any was _).mono ?_; rw [HWD.out]; rintro e_ w' ⟨rfl, rfl⟩))
            go_ret
            exact ⟨by first | rfl | simp, (HN.out.setA _).setB z, Keep.setAB _ _ _ _ _⟩
           ·go_enter Tryz.func73, Tryz.ntmps73
            go_wp2_with (first | (go_at_call 70; refine (letter_any z _).mono ?_; rw [HLA.out]; rintro e_ w' ⟨rfl, rfl⟩) | (go_at_call 72; with_reducible refine (digit_any z _).mono ?_; rw [HDG.out]; rintro e_ w' ⟨rfl, rfl⟩) | (go_at_call 72; with_reducible refine (digit_any was _).mono ?_; rw [HWD.out]; rintro e_ w' ⟨rfl, rfl⟩))
            go_ret
            exact ⟨by first | rfl | simp, (HN.out.setA _).setB z, Keep.setAB _ _ _ _ _⟩
          ·go_enter Tryz.func73, Tryz.ntmps73
           go_wp2_with (first | (go_at_call 70; refine (letter_any z _).mono ?_; rw [HLA.out]; rintro e_ w' ⟨rfl, rfl⟩) | (go_at_call 72; with_reducible refine (digit_any z _).mono ?_; rw [HDG.out]; rintro e_ w' ⟨rfl, rfl⟩) | (go_at_call 72; with_reducible refine (digit_any was _).mono ?_; rw [HWD.out]; rintro e_ w' ⟨rfl, rfl⟩))
           go_ret
           exact ⟨by first | rfl | simp, (HN.out.setA _).setB z, Keep.setAB _ _ _ _ _⟩
        ·cases n0
         ·go_enter Tryz.func73, Tryz.ntmps73
          go_wp2_with (first | (go_at_call 70; refine (letter_any z _).mono ?_; rw [HLA.out]; rintro e_ w' ⟨rfl, rfl⟩) | (go_at_call 72; with_reducible refine (digit_any z _).mono ?_; rw [HDG.out]; rintro e_ w' ⟨rfl, rfl⟩) | (go_at_call 72; with_reducible refine (digit_any was _).mono ?_; rw [HWD.out]; rintro e_ w' ⟨rfl, rfl⟩))
          go_ret
          exact ⟨by first | rfl | simp, HN.out.setB z, Keep.setB _ _ _ _⟩
         ·cases wd
          ·cases w46
           ·go_enter Tryz.func73, Tryz.ntmps73
            go_wp2_with (first | (go_at_call 70; refine (letter_any z _).mono ?_; rw [HLA.out]; rintro e_ w' ⟨rfl, rfl⟩) | (go_at_call 72; with_reducible refine (digit_any z _).mono ?_; rw [HDG.out]; rintro e_ w' ⟨rfl, rfl⟩) | (go_at_call 72; with_reducible refine (digit_any was _).mono ?_; rw [HWD.out]; rintro e_ w' ⟨rfl, rfl⟩))
            go_ret
            exact ⟨by first | rfl | simp, (HN.out.setA _).setB z, Keep.setAB _ _ _ _ _⟩
           ·go_enter Tryz.func73, Tryz.ntmps73
            go_wp2_with (first | (go_at_call 70; refine (letter_any z _).mono ?_; rw [HLA.out]; rintro e_ w' ⟨rfl, rfl⟩) | (go_at_call 72; with_reducible refine (digit_any z _).mono ?_; rw [HDG.out]; rintro e_ w' ⟨rfl, rfl⟩) | (go_at_call 72; with_reducible refine (digit_any was _).mono ?_; rw [HWD.out]; rintro e_ w' ⟨rfl, rfl⟩))
            go_ret
            exact ⟨by first | rfl | simp, (HN.out.setA _).setB z, Keep.setAB _ _ _ _ _⟩
          ·go_enter Tryz.func73, Tryz.ntmps73
           go_wp2_with (first | (go_at_call 70; refine (letter_any z _).mono ?_; rw [HLA.out]; rintro e_ w' ⟨rfl, rfl⟩) | (go_at_call 72; with_reducible refine (digit_any z _).mono ?_; rw [HDG.out]; rintro e_ w' ⟨rfl, rfl⟩) | (go_at_call 72; with_reducible refine (digit_any was _).mono ?_; rw [HWD.out]; rintro e_ w' ⟨rfl, rfl⟩))
           go_ret
           exact ⟨by first | rfl | simp, (HN.out.setA _).setB z, Keep.setAB _ _ _ _ _⟩
       ·cases n0
        ·go_enter Tryz.func73, Tryz.ntmps73
         go_wp2_with (first | (go_at_call 70; refine (letter_any z _).mono ?_; rw [HLA.out]; rintro e_ w' ⟨rfl, rfl⟩) | (go_at_call 72; with_reducible refine (digit_any z _).mono ?_; rw [HDG.out]; rintro e_ w' ⟨rfl, rfl⟩) | (go_at_call 72; with_reducible refine (digit_any was _).mono ?_; rw [HWD.out]; rintro e_ w' ⟨rfl, rfl⟩))
         go_ret
         exact ⟨by first | rfl | simp, HN.out.setB z, Keep.setB _ _ _ _⟩
        ·cases wd
         ·cases w46
          ·go_enter Tryz.func73, Tryz.ntmps73
           go_wp2_with (first | (go_at_call 70; refine (letter_any z _).mono ?_; rw [HLA.out]; rintro e_ w' ⟨rfl, rfl⟩) | (go_at_call 72; with_reducible refine (digit_any z _).mono ?_; rw [HDG.out]; rintro e_ w' ⟨rfl, rfl⟩) | (go_at_call 72; with_reducible refine (digit_any was _).mono ?_; rw [HWD.out]; rintro e_ w' ⟨rfl, rfl⟩))
           go_ret
           exact ⟨by first | rfl | simp, (HN.out.setA _).setB z, Keep.setAB _ _ _ _ _⟩
          ·go_enter Tryz.func73, Tryz.ntmps73
           go_wp2_with (first | (go_at_call 70; refine (letter_any z _).mono ?_; rw [HLA.out]; rintro e_ w' ⟨rfl, rfl⟩) | (go_at_call 72; with_reducible refine (digit_any z _).mono ?_; rw [HDG.out]; rintro e_ w' ⟨rfl, rfl⟩) | (go_at_call 72; with_reducible refine (digit_any was _).mono ?_; rw [HWD.out]; rintro e_ w' ⟨rfl, rfl⟩))
           go_ret
           exact ⟨by first | rfl | simp, (HN.out.setA _).setB z, Keep.setAB _ _ _ _ _⟩
         ·go_enter Tryz.func73, Tryz.ntmps73
          go_wp2_with (first | (go_at_call 70; refine (letter_any z _).mono ?_; rw [HLA.out]; rintro e_ w' ⟨rfl, rfl⟩) | (go_at_call 72; with_reducible refine (digit_any z _).mono ?_; rw [HDG.out]; rintro e_ w' ⟨rfl, rfl⟩) | (go_at_call 72; with_reducible refine (digit_any was _).mono ?_; rw [HWD.out]; rintro e_ w' ⟨rfl, rfl⟩))
          go_ret
          exact ⟨by first | rfl | simp, (HN.out.setA _).setB z, Keep.setAB _ _ _ _ _⟩
    ·cases pl
     ·cases n0
      ·go_enter Tryz.func73, Tryz.ntmps73
       go_wp2_with (first | (go_at_call 70; refine (letter_any z _).mono ?_; rw [HLA.out]; rintro e_ w' ⟨rfl, rfl⟩) | (go_at_call 72; with_reducible refine (digit_any z _).mono ?_; rw [HDG.out]; rintro e_ w' ⟨rfl, rfl⟩) | (go_at_call 72; with_reducible refine (digit_any was _).mono ?_; rw [HWD.out]; rintro e_ w' ⟨rfl, rfl⟩))
       go_ret
       exact ⟨by first | rfl | simp, HN.out.setB z, Keep.setB _ _ _ _⟩
      ·go_enter Tryz.func73, Tryz.ntmps73
       go_wp2_with (first | (go_at_call 70; refine (letter_any z _).mono ?_; rw [HLA.out]; rintro e_ w' ⟨rfl, rfl⟩) | (go_at_call 72; with_reducible refine (digit_any z _).mono ?_; rw [HDG.out]; rintro e_ w' ⟨rfl, rfl⟩) | (go_at_call 72; with_reducible refine (digit_any was _).mono ?_; rw [HWD.out]; rintro e_ w' ⟨rfl, rfl⟩))
       go_ret
       exact ⟨by first | rfl | simp, (HN.out.setA _).setB z, Keep.setAB _ _ _ _ _⟩
     ·cases e101
      ·cases e69
       ·cases n0
        ·go_enter Tryz.func73, Tryz.ntmps73
         go_wp2_with (first | (go_at_call 70; refine (letter_any z _).mono ?_; rw [HLA.out]; rintro e_ w' ⟨rfl, rfl⟩) | (go_at_call 72; with_reducible refine (digit_any z _).mono ?_; rw [HDG.out]; rintro e_ w' ⟨rfl, rfl⟩) | (go_at_call 72; with_reducible refine (digit_any was _).mono ?_; rw [HWD.out]; rintro e_ w' ⟨rfl, rfl⟩))
         go_ret
         exact ⟨by first | rfl | simp, HN.out.setB z, Keep.setB _ _ _ _⟩
        ·cases wd
         ·cases w46
          ·go_enter Tryz.func73, Tryz.ntmps73
           go_wp2_with (first | (go_at_call 70; refine (letter_any z _).mono ?_; rw [HLA.out]; rintro e_ w' ⟨rfl, rfl⟩) | (go_at_call 72; with_reducible refine (digit_any z _).mono ?_; rw [HDG.out]; rintro e_ w' ⟨rfl, rfl⟩) | (go_at_call 72; with_reducible refine (digit_any was _).mono ?_; rw [HWD.out]; rintro e_ w' ⟨rfl, rfl⟩))
           go_ret
           exact ⟨by first | rfl | simp, (HN.out.setA _).setB z, Keep.setAB _ _ _ _ _⟩
          ·go_enter Tryz.func73, Tryz.ntmps73
           go_wp2_with (first | (go_at_call 70; refine (letter_any z _).mono ?_; rw [HLA.out]; rintro e_ w' ⟨rfl, rfl⟩) | (go_at_call 72; with_reducible refine (digit_any z _).mono ?_; rw [HDG.out]; rintro e_ w' ⟨rfl, rfl⟩) | (go_at_call 72; with_reducible refine (digit_any was _).mono ?_; rw [HWD.out]; rintro e_ w' ⟨rfl, rfl⟩))
           go_ret
           exact ⟨by first | rfl | simp, (HN.out.setA _).setB z, Keep.setAB _ _ _ _ _⟩
         ·go_enter Tryz.func73, Tryz.ntmps73
          go_wp2_with (first | (go_at_call 70; refine (letter_any z _).mono ?_; rw [HLA.out]; rintro e_ w' ⟨rfl, rfl⟩) | (go_at_call 72; with_reducible refine (digit_any z _).mono ?_; rw [HDG.out]; rintro e_ w' ⟨rfl, rfl⟩) | (go_at_call 72; with_reducible refine (digit_any was _).mono ?_; rw [HWD.out]; rintro e_ w' ⟨rfl, rfl⟩))
          go_ret
          exact ⟨by first | rfl | simp, (HN.out.setA _).setB z, Keep.setAB _ _ _ _ _⟩
       ·cases n0
        ·go_enter Tryz.func73, Tryz.ntmps73
         go_wp2_with (first | (go_at_call 70; refine (letter_any z _).mono ?_; rw [HLA.out]; rintro e_ w' ⟨rfl, rfl⟩) | (go_at_call 72; with_reducible refine (digit_any z _).mono ?_; rw [HDG.out]; rintro e_ w' ⟨rfl, rfl⟩) | (go_at_call 72; with_reducible refine (digit_any was _).mono ?_; rw [HWD.out]; rintro e_ w' ⟨rfl, rfl⟩))
         go_ret
         exact ⟨by first | rfl | simp, HN.out.setB z, Keep.setB _ _ _ _⟩
        ·cases wd
         ·cases w46
          ·go_enter Tryz.func73, Tryz.ntmps73
           go_wp2_with (first | (go_at_call 70; refine (letter_any z _).mono ?_; rw [HLA.out]; rintro e_ w' ⟨rfl, rfl⟩) | (go_at_call 72; with_reducible refine (digit_any z _).mono ?_; rw [HDG.out]; rintro e_ w' ⟨rfl, rfl⟩) | (go_at_call 72; with_reducible refine (digit_any was _).mono ?_; rw [HWD.out]; rintro e_ w' ⟨rfl, rfl⟩))
           go_ret
           exact ⟨by first | rfl | simp, (HN.out.setA _).setB z, Keep.setAB _ _ _ _ _⟩
          ·go_enter Tryz.func73, Tryz.ntmps73
           go_wp2_with (first | (go_at_call 70; refine (letter_any z _).mono ?_; rw [HLA.out]; rintro e_ w' ⟨rfl, rfl⟩) | (go_at_call 72; with_reducible refine (digit_any z _).mono ?_; rw [HDG.out]; rintro e_ w' ⟨rfl, rfl⟩) | (go_at_call 72; with_reducible refine (digit_any was _).mono ?_; rw [HWD.out]; rintro e_ w' ⟨rfl, rfl⟩))
           go_ret
           exact ⟨by first | rfl | simp, (HN.out.setA _).setB z, Keep.setAB _ _ _ _ _⟩
         ·go_enter Tryz.func73, Tryz.ntmps73
          go_wp2_with (first | (go_at_call 70; refine (letter_any z _).mono ?_; rw [HLA.out]; rintro e_ w' ⟨rfl, rfl⟩) | (go_at_call 72; with_reducible refine (digit_any z _).mono ?_; rw [HDG.out]; rintro e_ w' ⟨rfl, rfl⟩) | (go_at_call 72; with_reducible refine (digit_any was _).mono ?_; rw [HWD.out]; rintro e_ w' ⟨rfl, rfl⟩))
          go_ret
          exact ⟨by first | rfl | simp, (HN.out.setA _).setB z, Keep.setAB _ _ _ _ _⟩
      ·cases n0
       ·go_enter Tryz.func73, Tryz.ntmps73
        go_wp2_with (first | (go_at_call 70; refine (letter_any z _).mono ?_; rw [HLA.out]; rintro e_ w' ⟨rfl, rfl⟩) | (go_at_call 72; with_reducible refine (digit_any z _).mono ?_; rw [HDG.out]; rintro e_ w' ⟨rfl, rfl⟩) | (go_at_call 72; with_reducible refine (digit_any was _).mono ?_; rw [HWD.out]; rintro e_ w' ⟨rfl, rfl⟩))
        go_ret
        exact ⟨by first | rfl | simp, HN.out.setB z, Keep.setB _ _ _ _⟩
       ·cases wd
        ·cases w46
         ·go_enter Tryz.func73, Tryz.ntmps73
          go_wp2_with (first | (go_at_call 70; refine (letter_any z _).mono ?_; rw [HLA.out]; rintro e_ w' ⟨rfl, rfl⟩) | (go_at_call 72; with_reducible refine (digit_any z _).mono ?_; rw [HDG.out]; rintro e_ w' ⟨rfl, rfl⟩) | (go_at_call 72; with_reducible refine (digit_any was _).mono ?_; rw [HWD.out]; rintro e_ w' ⟨rfl, rfl⟩))
          go_ret
          exact ⟨by first | rfl | simp, (HN.out.setA _).setB z, Keep.setAB _ _ _ _ _⟩
         ·go_enter Tryz.func73, Tryz.ntmps73
          go_wp2_with (first | (go_at_call 70; refine (letter_any z _).mono ?_; rw [HLA.out]; rintro e_ w' ⟨rfl, rfl⟩) | (go_at_call 72; with_reducible refine (digit_any z _).mono ?_; rw [HDG.out]; rintro e_ w' ⟨rfl, rfl⟩) | (go_at_call 72; with_reducible refine (digit_any was _).mono ?_; rw [HWD.out]; rintro e_ w' ⟨rfl, rfl⟩))
          go_ret
          exact ⟨by first | rfl | simp, (HN.out.setA _).setB z, Keep.setAB _ _ _ _ _⟩
        ·go_enter Tryz.func73, Tryz.ntmps73
         go_wp2_with (first | (go_at_call 70; refine (letter_any z _).mono ?_; rw [HLA.out]; rintro e_ w' ⟨rfl, rfl⟩) | (go_at_call 72; with_reducible refine (digit_any z _).mono ?_; rw [HDG.out]; rintro e_ w' ⟨rfl, rfl⟩) | (go_at_call 72; with_reducible refine (digit_any was _).mono ?_; rw [HWD.out]; rintro e_ w' ⟨rfl, rfl⟩))
         go_ret
         exact ⟨by first | rfl | simp, (HN.out.setA _).setB z, Keep.setAB _ _ _ _ _⟩
   ·cases n0
    ·go_enter Tryz.func73, Tryz.ntmps73
     go_wp2_with (first | (go_at_call 70; refine (letter_any z _).mono ?_; rw [HLA.out]; rintro e_ w' ⟨rfl, rfl⟩) | (go_at_call 72; with_reducible refine (digit_any z _).mono ?_; rw [HDG.out]; rintro e_ w' ⟨rfl, rfl⟩) | (go_at_call 72; with_reducible refine (digit_any was _).mono ?_; rw [HWD.out]; rintro e_ w' ⟨rfl, rfl⟩))
     go_ret
     exact ⟨by first | rfl | simp, HN.out.setB z, Keep.setB _ _ _ _⟩
    ·cases pl
     ·go_enter Tryz.func73, Tryz.ntmps73
      go_wp2_with (first | (go_at_call 70; refine (letter_any z _).mono ?_; rw [HLA.out]; rintro e_ w' ⟨rfl, rfl⟩) | (go_at_call 72; with_reducible refine (digit_any z _).mono ?_; rw [HDG.out]; rintro e_ w' ⟨rfl, rfl⟩) | (go_at_call 72; with_reducible refine (digit_any was _).mono ?_; rw [HWD.out]; rintro e_ w' ⟨rfl, rfl⟩))
      go_ret
      exact ⟨by first | rfl | simp, (HN.out.setA _).setB z, Keep.setAB _ _ _ _ _⟩
     ·cases wd
      ·cases w46
       ·go_enter Tryz.func73, Tryz.ntmps73
        go_wp2_with (first | (go_at_call 70; refine (letter_any z _).mono ?_; rw [HLA.out]; rintro e_ w' ⟨rfl, rfl⟩) | (go_at_call 72; with_reducible refine (digit_any z _).mono ?_; rw [HDG.out]; rintro e_ w' ⟨rfl, rfl⟩) | (go_at_call 72; with_reducible refine (digit_any was _).mono ?_; rw [HWD.out]; rintro e_ w' ⟨rfl, rfl⟩))
        go_ret
        exact ⟨by first | rfl | simp, (HN.out.setA _).setB z, Keep.setAB _ _ _ _ _⟩
       ·go_enter Tryz.func73, Tryz.ntmps73
        go_wp2_with (first | (go_at_call 70; refine (letter_any z _).mono ?_; rw [HLA.out]; rintro e_ w' ⟨rfl, rfl⟩) | (go_at_call 72; with_reducible refine (digit_any z _).mono ?_; rw [HDG.out]; rintro e_ w' ⟨rfl, rfl⟩) | (go_at_call 72; with_reducible refine (digit_any was _).mono ?_; rw [HWD.out]; rintro e_ w' ⟨rfl, rfl⟩))
        go_ret
        exact ⟨by first | rfl | simp, (HN.out.setA _).setB z, Keep.setAB _ _ _ _ _⟩
      ·go_enter Tryz.func73, Tryz.ntmps73
       go_wp2_with (first | (go_at_call 70; refine (letter_any z _).mono ?_; rw [HLA.out]; rintro e_ w' ⟨rfl, rfl⟩) | (go_at_call 72; with_reducible refine (digit_any z _).mono ?_; rw [HDG.out]; rintro e_ w' ⟨rfl, rfl⟩) | (go_at_call 72; with_reducible refine (digit_any was _).mono ?_; rw [HWD.out]; rintro e_ w' ⟨rfl, rfl⟩))
       go_ret
       exact ⟨by first | rfl | simp, (HN.out.setA _).setB z, Keep.setAB _ _ _ _ _⟩
  ·cases n0
   ·go_enter Tryz.func73, Tryz.ntmps73
    go_wp2_with (first | (go_at_call 70; refine (letter_any z _).mono ?_; rw [HLA.out]; rintro e_ w' ⟨rfl, rfl⟩) | (go_at_call 72; with_reducible refine (digit_any z _).mono ?_; rw [HDG.out]; rintro e_ w' ⟨rfl, rfl⟩) | (go_at_call 72; with_reducible refine (digit_any was _).mono ?_; rw [HWD.out]; rintro e_ w' ⟨rfl, rfl⟩))
    go_ret
    exact ⟨by first | rfl | simp, HN.out.setB z, Keep.setB _ _ _ _⟩
   ·cases pl
    ·go_enter Tryz.func73, Tryz.ntmps73
     go_wp2_with (first | (go_at_call 70; refine (letter_any z _).mono ?_; rw [HLA.out]; rintro e_ w' ⟨rfl, rfl⟩) | (go_at_call 72; with_reducible refine (digit_any z _).mono ?_; rw [HDG.out]; rintro e_ w' ⟨rfl, rfl⟩) | (go_at_call 72; with_reducible refine (digit_any was _).mono ?_; rw [HWD.out]; rintro e_ w' ⟨rfl, rfl⟩))
     go_ret
     exact ⟨by first | rfl | simp, (HN.out.setA _).setB z, Keep.setAB _ _ _ _ _⟩
    ·cases wd
     ·cases w46
      ·go_enter Tryz.func73, Tryz.ntmps73
       go_wp2_with (first | (go_at_call 70; refine (letter_any z _).mono ?_; rw [HLA.out]; rintro e_ w' ⟨rfl, rfl⟩) | (go_at_call 72; with_reducible refine (digit_any z _).mono ?_; rw [HDG.out]; rintro e_ w' ⟨rfl, rfl⟩) | (go_at_call 72; with_reducible refine (digit_any was _).mono ?_; rw [HWD.out]; rintro e_ w' ⟨rfl, rfl⟩))
       go_ret
       exact ⟨by first | rfl | simp, (HN.out.setA _).setB z, Keep.setAB _ _ _ _ _⟩
      ·go_enter Tryz.func73, Tryz.ntmps73
       go_wp2_with (first | (go_at_call 70; refine (letter_any z _).mono ?_; rw [HLA.out]; rintro e_ w' ⟨rfl, rfl⟩) | (go_at_call 72; with_reducible refine (digit_any z _).mono ?_; rw [HDG.out]; rintro e_ w' ⟨rfl, rfl⟩) | (go_at_call 72; with_reducible refine (digit_any was _).mono ?_; rw [HWD.out]; rintro e_ w' ⟨rfl, rfl⟩))
       go_ret
       exact ⟨by first | rfl | simp, (HN.out.setA _).setB z, Keep.setAB _ _ _ _ _⟩
     ·go_enter Tryz.func73, Tryz.ntmps73
      go_wp2_with (first | (go_at_call 70; refine (letter_any z _).mono ?_; rw [HLA.out]; rintro e_ w' ⟨rfl, rfl⟩) | (go_at_call 72; with_reducible refine (digit_any z _).mono ?_; rw [HDG.out]; rintro e_ w' ⟨rfl, rfl⟩) | (go_at_call 72; with_reducible refine (digit_any was _).mono ?_; rw [HWD.out]; rintro e_ w' ⟨rfl, rfl⟩))
      go_ret
      exact ⟨by first | rfl | simp, (HN.out.setA _).setB z, Keep.setAB _ _ _ _ _⟩
 ·cases n0
  ·go_enter Tryz.func73, Tryz.ntmps73
   go_wp2_with (first | (go_at_call 70; refine (letter_any z _).mono ?_; rw [HLA.out]; rintro e_ w' ⟨rfl, rfl⟩) | (go_at_call 72; with_reducible refine (digit_any z _).mono ?_; rw [HDG.out]; rintro e_ w' ⟨rfl, rfl⟩) | (go_at_call 72; with_reducible refine (digit_any was _).mono ?_; rw [HWD.out]; rintro e_ w' ⟨rfl, rfl⟩))
   go_ret
   exact ⟨by first | rfl | simp, HN.out.setB z, Keep.setB _ _ _ _⟩
  ·cases pl
   ·go_enter Tryz.func73, Tryz.ntmps73
    go_wp2_with (first | (go_at_call 70; refine (letter_any z _).mono ?_; rw [HLA.out]; rintro e_ w' ⟨rfl, rfl⟩) | (go_at_call 72; with_reducible refine (digit_any z _).mono ?_; rw [HDG.out]; rintro e_ w' ⟨rfl, rfl⟩) | (go_at_call 72; with_reducible refine (digit_any was _).mono ?_; rw [HWD.out]; rintro e_ w' ⟨rfl, rfl⟩))
    go_ret
    exact ⟨by first | rfl | simp, (HN.out.setA _).setB z, Keep.setAB _ _ _ _ _⟩
   ·cases wd
    ·cases w46
     ·go_enter Tryz.func73, Tryz.ntmps73
      go_wp2_with (first | (go_at_call 70; refine (letter_any z _).mono ?_; rw [HLA.out]; rintro e_ w' ⟨rfl, rfl⟩) | (go_at_call 72; with_reducible refine (digit_any z _).mono ?_; rw [HDG.out]; rintro e_ w' ⟨rfl, rfl⟩) | (go_at_call 72; with_reducible refine (digit_any was _).mono ?_; rw [HWD.out]; rintro e_ w' ⟨rfl, rfl⟩))
      go_ret
      exact ⟨by first | rfl | simp, (HN.out.setA _).setB z, Keep.setAB _ _ _ _ _⟩
     ·go_enter Tryz.func73, Tryz.ntmps73
      go_wp2_with (first | (go_at_call 70; refine (letter_any z _).mono ?_; rw [HLA.out]; rintro e_ w' ⟨rfl, rfl⟩) | (go_at_call 72; with_reducible refine (digit_any z _).mono ?_; rw [HDG.out]; rintro e_ w' ⟨rfl, rfl⟩) | (go_at_call 72; with_reducible refine (digit_any was _).mono ?_; rw [HWD.out]; rintro e_ w' ⟨rfl, rfl⟩))
      go_ret
      exact ⟨by first | rfl | simp, (HN.out.setA _).setB z, Keep.setAB _ _ _ _ _⟩
    ·go_enter Tryz.func73, Tryz.ntmps73
     go_wp2_with (first | (go_at_call 70; refine (letter_any z _).mono ?_; rw [HLA.out]; rintro e_ w' ⟨rfl, rfl⟩) | (go_at_call 72; with_reducible refine (digit_any z _).mono ?_; rw [HDG.out]; rintro e_ w' ⟨rfl, rfl⟩) | (go_at_call 72; with_reducible refine (digit_any was _).mono ?_; rw [HWD.out]; rintro e_ w' ⟨rfl, rfl⟩))
     go_ret
     exact ⟨by first | rfl | simp, (HN.out.setA _).setB z, Keep.setAB _ _ _ _ _⟩
-- END
end Go.Proofs.YtjleceekccehoaaGreatDoor.Pr
end

section
set_option linter.unusedVariables false
set_option linter.unusedSimpArgs false
namespace Go.Proofs.YtjleceekccehoaaGreatDoor.Pr
open Go.RowKit Go.Proofs.YtjleceekccehoaaGreatDoorW.PrintWords Go.Proofs.YtjleceekccehoaaGreatDoorW.PrintLast Go.Proofs.YtjleceekccehoaaGreatDoorW.PrintMore

theorem num1_any (z was a b : Nat) (pl : Bool) (w0 w : World) (h : NBox w0 w a b pl was) :
  Calls Tryz.prog 73 #[.int .u8 z, .pointer (some ⟨a, 0, none⟩), .pointer (some ⟨b, 0, none⟩)] w fun e w' => e = .returned (.bool (okS pl was z)) ∧ NBox w0 w' a b (plS pl was) z ∧ Keep a b w w' :=
 num1_core z was a b pl _ _ _ _ _ _ _ _ _ _ w0 w h rfl rfl rfl rfl rfl rfl rfl rfl rfl rfl _ rfl _ (by unfold plS; by_cases hw : was = 0 <;> simp [hw])
/-- How many bytes from here on are a number's. -/
def runS : Bool → Nat → List UInt8 → Nat
 | _, _, [] => 0
 | pl, was, c :: r => if okS pl was c.toNat = true then runS (plS pl was) c.toNat r + 1 else 0
theorem runS_le : ∀ (s : List UInt8) (pl : Bool) (was : Nat), runS pl was s ≤ s.length := by
 intro s
 induction s with
 | nil => intro _ _; exact Nat.le_refl _
 | cons c r ih => intro pl was; unfold runS; split <;> simp; have := ih (plS pl was) c.toNat; omega
/-- while's own rest, beside the two variables. -/
structure WBox (w0 w : World) (g a b : Nat) (l : List UInt8) (i : Nat) (pl : Bool) (was : Nat) : Prop where
 n : NBox w0 w a b pl was
 blk : w.heap[g]? = some (.cells #[.string (bs l), .int .i64 i] 57 (0, 0))
 na : g ≠ a
 nb : g ≠ b
section
variable {w0 w w' : World} {g a b : Nat} {l : List UInt8} {i : Nat} {pl p : Bool} {was z : Nat}
theorem WBox.c0 (h : WBox w0 w g a b l i pl was) : w.cell? ⟨g, 0, none⟩ = some (.string (bs l)) := (blk_cell h.blk 0).trans rfl
theorem WBox.c1 (h : WBox w0 w g a b l i pl was) : w.cell? ⟨g, 1, none⟩ = some (.int .i64 i) := (blk_cell h.blk 1).trans rfl
theorem WBox.new (h : NBox w0 w a b pl was) (l : List UInt8) (i : Nat) : WBox w0 (w.alloc (.cells #[.string (bs l), .int .i64 i] 57)) w.heap.size a b l i pl was :=
 ⟨h.below (below_alloc (Below.refl _ _) _), heap_alloc_new w _, Nat.ne_of_gt (heap_lt h.ba), Nat.ne_of_gt (heap_lt h.bb)⟩
theorem WBox.step (h : WBox w0 w g a b l i pl was) (hn : NBox w0 w' a b p z) (hk : Keep a b w w') : WBox w0 w' g a b l i p z := ⟨hn, (hk g h.na h.nb).trans h.blk, h.na, h.nb⟩
end
set_option maxHeartbeats 1000000 in
set_option maxRecDepth 100000 in
theorem whileS_any (l : List UInt8) (hl : l.length ≤ 1000000) (i : Nat) (s : List UInt8) (hA : At l i s) (a b : Nat) (pl : Bool) (was : Nat) (w0 w : World) (hN : NBox w0 w a b pl was) :
  Calls Tryz.prog 45 #[.agg #[.string (bs l), .int .i64 i], .func (.func 73) #[] #[.pointer (some ⟨a, 0, none⟩), .pointer (some ⟨b, 0, none⟩)]] w fun e w' => e = .returned (.string (bs (s.take (runS pl was s)))) ∧ Below w0.heap.size w0 w' := by
 have hsz := bs_size l
 have hil := hA.le
 have HA := Aside0.mk hA
 have HR := Aside0.mk (runS_le s pl was)
 have HB := Aside0.mk (WBox.new hN l i)
 obtain ⟨TOT, hTOT⟩ : ∃ T, runS pl was s = T := ⟨_, rfl⟩
 have HTOT := Aside0.mk hTOT
 rw [hTOT]
 clear hA hN hTOT
 go_enter Tryz.func45, Tryz.ntmps45
 have x0 := HB.out.c0
 have x1 := HB.out.c1
 go_wp2_with fail
 go_loopg [5] s.length (fun q v5 wr => ∃ (j : Nat) (r : List UInt8) (p : Bool) (y : Nat), v5 = .int .i64 (j : Int) ∧ q = r.length ∧ j ≤ l.length ∧ Aside0 (At l j r ∧ j + runS p y r = i + TOT) ∧ Aside0 (WBox w0 wr w.heap.size a b l i p y))
 case atStart => exact ⟨i, s, pl, was, rfl, rfl, hil, ⟨HA.out, by rw [HTOT.out]⟩, HB⟩
 case round =>
  clear HB x0 x1
  obtain ⟨j, r, p, y, h5, hq, hj, HJ, HB⟩ := hrel
  have HQ := Aside0.mk hq
  have x0 := HB.out.c0
  have x1 := HB.out.c1
  clear hq
  subst h5
  cases r with
  | nil =>
   have hjl := HJ.out.1.nil
   have t3 : ((j : Int) < (l.length : Int)) = False := eq_false (by omega)
   have HV : Aside0 (j = i + TOT) := ⟨by have := HJ.out.2; simpa [runS] using this⟩
   have t4 : (i : Int) ≤ (j : Int) := by have := HV.out; omega
   have t5 : (j : Int) ≤ (l.length : Int) := by omega
   have t6 : (0 : Int) ≤ (i : Int) := by omega
   have hx : (bs l).extract i j = bs (s.take TOT) := by rw [bs_mid, HA.out.eq, show j - i = TOT from by have := HV.out; omega]
   clear hjl
   go_wp2_with fail
   go_ret
   exact ⟨by first | rfl | simp, HB.out.n.bel⟩
  | cons c r =>
   have hlt := HJ.out.1.lt
   have hb := HJ.out.1.byte
   have hz : ∀ h : j < (bs l).size, ((bs l)[j]'h).toNat = c.toNat := fun h => by
    have h1 := hb
    unfold bt at h1
    rw [dif_pos (by simpa using h)] at h1
    simp only [Int.toNat_natCast] at h1
    omega
   obtain ⟨z, hzz⟩ : ∃ z, c.toNat = z := ⟨_, rfl⟩
   have HZ := Aside0.mk hzz
   rw [hzz] at hz
   have t2 : (0 : Int) ≤ (j : Int) := by omega
   have t3 : (j : Int) < (l.length : Int) := by omega
   clear hb hlt hzz
   obtain ⟨bb, hpb⟩ : ∃ bb, okS p y z = bb := ⟨_, rfl⟩
   have HPB := Aside0.mk hpb
   clear hpb
   go_wp2_with fail
   refine (num1_any z y a b p w0 _ HB.out.n).mono ?_
   rw [HPB.out]
   rintro e_ w2 ⟨rfl, hn2, hk2⟩
   have HB2 := Aside0.mk (HB.out.step hn2 hk2)
   have y0 := HB2.out.c0
   have y1 := HB2.out.c1
   clear hn2 hk2 HB x0 x1
   cases bb
   ·have HV : Aside0 (j = i + TOT) := ⟨by have := HJ.out.2; rw [runS, if_neg (by rw [HZ.out, HPB.out]; simp)] at this; omega⟩
    have t4 : (i : Int) ≤ (j : Int) := by have := HV.out; omega
    have t5 : (j : Int) ≤ (l.length : Int) := by omega
    have t6 : (0 : Int) ≤ (i : Int) := by omega
    have hx : (bs l).extract i j = bs (s.take TOT) := by rw [bs_mid, HA.out.eq, show j - i = TOT from by have := HV.out; omega]
    go_wp2_with fail
    go_ret
    exact ⟨by first | rfl | simp, HB2.out.n.bel⟩
   ·go_wp2_with fail
    go_roundg r.length
    case measure => have := HQ.out; simp at this; omega
    case rel => exact ⟨j + 1, r, plS p y, z, by go_num, rfl, HJ.out.1.next.le, ⟨HJ.out.1.next, by have := HJ.out.2; rw [runS, if_pos (by rw [HZ.out, HPB.out]), HZ.out] at this; omega⟩, HB2⟩
end Go.Proofs.YtjleceekccehoaaGreatDoor.Pr
end

section
set_option linter.unusedVariables false
set_option linter.unusedSimpArgs false
namespace Go.Proofs.YtjleceekccehoaaGreatDoor.Pr
open Go.RowKit Go.Proofs.YtjleceekccehoaaGreatDoorW.PrintWords Go.Proofs.YtjleceekccehoaaGreatDoorW.PrintLast Go.Proofs.YtjleceekccehoaaGreatDoorW.PrintMore

set_option maxRecDepth 100000 in
theorem en46 : ∀ args w, (callFunc 46 args).run Tryz.prog w = .ok (.enter 46 args) w := fun _ _ => rfl
set_option maxRecDepth 100000 in
theorem en48 : ∀ args w, (callFunc 48 args).run Tryz.prog w = .ok (.enter 48 args) w := fun _ _ => rfl
set_option maxRecDepth 100000 in
theorem en71 : ∀ args w, (callFunc 71 args).run Tryz.prog w = .ok (.enter 71 args) w := fun _ _ => rfl
/-- How many bytes are passed by. -/
def blankV (s : List UInt8) : Nat := if run isBlk s = 0 then (match s with | c :: _ => if c.toNat = 35 then run (fun z => z != 10) s else 0 | [] => 0) else run isBlk s
set_option maxHeartbeats 4000000 in
set_option maxRecDepth 100000 in
theorem blank_any (l : List UInt8) (hl : l.length ≤ 1000000) (i : Nat) (c : UInt8) (r : List UInt8) (hA : At l i (c :: r)) (w : World) :
  Calls Tryz.prog 31 #[.agg #[.string (bs l), .int .i64 i]] w fun e w' => e = .returned (.int .i64 (blankV (c :: r))) ∧ Below w.heap.size w w' := by
 have hsz := bs_size l
 have hlt := hA.lt
 have hb := hA.byte
 have hz : ∀ h : i < (bs l).size, ((bs l)[i]'h).toNat = c.toNat := fun h => by
  have h1 := hb
  unfold bt at h1
  rw [dif_pos (by simpa using h)] at h1
  simp only [Int.toNat_natCast] at h1
  omega
 obtain ⟨z, hzz⟩ : ∃ z, c.toNat = z := ⟨_, rfl⟩
 have HV : Aside0 (blankV (c :: r) = if run isBlk (c :: r) = 0 then (if z = 35 then run (fun z => z != 10) (c :: r) else 0) else run isBlk (c :: r)) := ⟨by unfold blankV; rw [← hzz]⟩
 rw [hzz] at hz
 obtain ⟨s, hs⟩ : ∃ s, c :: r = s := ⟨_, rfl⟩
 rw [hs] at HV hA ⊢
 have HA := Aside0.mk hA
 have HL := Aside0.mk hl
 have hlen := hA.len
 have r1 := run_le isBlk s
 have r2 := run_le (fun z => z != 10) s
 obtain ⟨n, hn⟩ : ∃ n, run isBlk s = n := ⟨_, rfl⟩
 obtain ⟨m, hm⟩ : ∃ n, run (fun z => z != 10) s = n := ⟨_, rfl⟩
 have q1 : (bs (s.take (run isBlk s))).size = n := by rw [bs_size, List.length_take, Nat.min_eq_left r1, hn]
 have q2 : (bs (s.take (run (fun z => z != 10) s))).size = m := by rw [bs_size, List.length_take, Nat.min_eq_left r2, hm]
 obtain ⟨b1, hb1⟩ : ∃ b, bs (s.take (run isBlk s)) = b := ⟨_, rfl⟩
 obtain ⟨b2, hb2⟩ : ∃ b, bs (s.take (run (fun z => z != 10) s)) = b := ⟨_, rfl⟩
 have W1 : Aside0 (∀ w, Calls Tryz.prog 45 #[.agg #[.string (bs l), .int .i64 i], .func (.func 46) #[] #[]] w fun e w' => e = .returned (.string b1) ∧ Below w.heap.size w w') := ⟨fun w => by rw [← hb1]; exact while_any _ isBlk blank1_any en46 l hl i s hA w⟩
 have W2 : Aside0 (∀ w, Calls Tryz.prog 45 #[.agg #[.string (bs l), .int .i64 i], .func (.func 48) #[] #[]] w fun e w' => e = .returned (.string b2) ∧ Below w.heap.size w w') := ⟨fun w => by rw [← hb2]; exact while_any _ _ blank2_any en48 l hl i s hA w⟩
 rw [hb1] at q1
 rw [hb2] at q2
 rw [hn, hm] at HV
 have t2 : (0 : Int) ≤ (i : Int) := by omega
 have t3 : (i : Int) < (l.length : Int) := by omega
 have HB := Aside0.mk (RBox.new (w0 := w) w l i (Below.refl _ _))
 have x0 := HB.out.c0
 have x1 := HB.out.c1
 rw [hn] at r1
 rw [hm] at r2
 clear hA hl hlt hb hs hzz hlen hn hm hb1 hb2 r1 r2
 by_cases h0 : n = 0
 ·subst h0
  by_cases h35 : z = 35
  ·have t5 : ((z : Int) == 35) = true := by rw [beq_iff_eq]; omega
   have HW : Aside0 (blankV s = m) := ⟨by rw [HV.out, if_pos rfl, if_pos h35]⟩
   rw [HW.out]
   clear h35
   go_enter Tryz.func31, Tryz.ntmps31
   go_wp2_with fail
   refine (W1.out _).mono ?_
   rintro e_ w1 ⟨rfl, hb1⟩
   have HB1 := Aside0.mk (HB.out.below hb1)
   have y0 := HB1.out.c0
   have y1 := HB1.out.c1
   clear hb1 HB x0 x1
   go_wp2_with fail
   refine (W2.out _).mono ?_
   rintro e_ w2 ⟨rfl, hb2⟩
   have HB2 := Aside0.mk (HB1.out.below hb2)
   clear hb2
   go_wp2_with fail
   go_ret
   exact ⟨by first | rfl | simp, HB2.out.bel⟩
  ·have t5 : ((z : Int) == 35) = false := by rw [beq_eq_false_iff_ne]; omega
   have HW : Aside0 (blankV s = 0) := ⟨by rw [HV.out, if_pos rfl, if_neg h35]⟩
   rw [HW.out]
   clear h35
   go_enter Tryz.func31, Tryz.ntmps31
   go_wp2_with fail
   refine (W1.out _).mono ?_
   rintro e_ w1 ⟨rfl, hb1⟩
   have HB1 := Aside0.mk (HB.out.below hb1)
   have y0 := HB1.out.c0
   have y1 := HB1.out.c1
   clear hb1 HB x0 x1
   go_wp2_with fail
   go_ret
   exact ⟨by first | rfl | simp, HB1.out.bel⟩
 ·have HW : Aside0 (blankV s = n) := ⟨by rw [HV.out, if_neg h0]⟩
  rw [HW.out]
  have t5 : ((n : Int) == 0) = false := by rw [beq_eq_false_iff_ne]; omega
  clear h0
  go_enter Tryz.func31, Tryz.ntmps31
  go_wp2_with fail
  refine (W1.out _).mono ?_
  rintro e_ w1 ⟨rfl, hb1⟩
  have HB1 := Aside0.mk (HB.out.below hb1)
  have y0 := HB1.out.c0
  have y1 := HB1.out.c1
  clear hb1 HB x0 x1
  go_wp2_with fail
  go_ret
  exact ⟨by first | rfl | simp, HB1.out.bel⟩
end Go.Proofs.YtjleceekccehoaaGreatDoor.Pr
end
