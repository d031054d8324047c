/- Texts of this session, cut down to what one claim needs and joined: LexN. -/
import Derived.Test.YtjleceekccehoaaGreatDoorQGJ15
set_option linter.unusedVariables false
set_option linter.unusedSimpArgs false
namespace Go.Proofs.YtjleceekccehoaaGreatDoor.Pr
open Go.RowKit Go.Proofs.YtjleceekccehoaaGreatDoorW.PrintWords Go.Proofs.YtjleceekccehoaaGreatDoorW.PrintLast Go.Proofs.YtjleceekccehoaaGreatDoorW.PrintMore

/-- Two variables that a closure shares with its maker: block a holds a bool, block b a byte. -/
structure NBox (w0 w : World) (a b : Nat) (pl : Bool) (was : Nat) : Prop where
  ba : w.heap[a]? = some (.cells #[.bool pl] 4 (0, 0))
  bb : w.heap[b]? = some (.cells #[.int .u8 was] 5 (0, 0))
  ga : w0.heap.size ≤ a
  gb : w0.heap.size ≤ b
  ne : a ≠ b
  bel : Below w0.heap.size w0 w
theorem heap_set_ne (w : World) (a g : Nat) (v : Value) (h : g ≠ a) : (w.setCell ⟨a, 0, none⟩ v).heap[g]? = w.heap[g]? := by
  simp [World.setCell, Array.getElem?_modify, Ne.symm h]
theorem heap_set_eq (w : World) (a : Nat) (v u : Value) (t : TypeId) (h : w.heap[a]? = some (.cells #[u] t (0, 0))) : (w.setCell ⟨a, 0, none⟩ v).heap[a]? = some (.cells #[v] t (0, 0)) := by
  simp [World.setCell, Array.getElem?_modify, h]
theorem heap_lt {w : World} {g : Nat} {o : Obj} (h : w.heap[g]? = some o) : g < w.heap.size := by
  rcases Nat.lt_or_ge g w.heap.size with hlt | hge
  · exact hlt
  · rw [Array.getElem?_eq_none hge] at h; cases h
section
variable {w0 w w' : World} {a b : Nat} {pl : Bool} {was : Nat}
theorem NBox.ca (h : NBox w0 w a b pl was) : w.cell? ⟨a, 0, none⟩ = some (.bool pl) := (blk_cell h.ba 0).trans rfl
theorem NBox.cb (h : NBox w0 w a b pl was) : w.cell? ⟨b, 0, none⟩ = some (.int .u8 was) := (blk_cell h.bb 0).trans rfl
theorem NBox.fa (h : NBox w0 w a b pl was) : w.frozen? ⟨a, 0, none⟩ = false := by have h1 := h.ba; simp [World.frozen?, h1]
theorem NBox.fb (h : NBox w0 w a b pl was) : w.frozen? ⟨b, 0, none⟩ = false := by have h1 := h.bb; simp [World.frozen?, h1]
theorem NBox.setA (h : NBox w0 w a b pl was) (p : Bool) : NBox w0 (w.setCell ⟨a, 0, none⟩ (.bool p)) a b p was :=
  ⟨heap_set_eq _ _ _ _ _ h.ba, (heap_set_ne _ _ _ _ (Ne.symm h.ne)).trans h.bb, h.ga, h.gb, h.ne, below_set h.bel h.ga⟩
theorem NBox.setB (h : NBox w0 w a b pl was) (z : Nat) : NBox w0 (w.setCell ⟨b, 0, none⟩ (.int .u8 z)) a b pl z :=
  ⟨(heap_set_ne _ _ _ _ h.ne).trans h.ba, heap_set_eq _ _ _ _ _ h.bb, h.ga, h.gb, h.ne, below_set h.bel h.gb⟩
theorem NBox.below (h : NBox w0 w a b pl was) (hb : Below w.heap.size w w') : NBox w0 w' a b pl was :=
  ⟨(hb.block a (heap_lt h.ba)).trans h.ba, (hb.block b (heap_lt h.bb)).trans h.bb, h.ga, h.gb, h.ne, below_step h.bel hb⟩
end
/-- All blocks but two are as they were. -/
def Keep (a b : Nat) (w w' : World) : Prop := ∀ g, g ≠ a → g ≠ b → w'.heap[g]? = w.heap[g]?
theorem Keep.setB (a b : Nat) (w : World) (v : Value) : Keep a b w (w.setCell ⟨b, 0, none⟩ v) := fun g _ h2 => heap_set_ne _ _ _ _ h2
theorem Keep.setAB (a b : Nat) (w : World) (v u : Value) : Keep a b w ((w.setCell ⟨a, 0, none⟩ v).setCell ⟨b, 0, none⟩ u) := fun g h1 h2 => (heap_set_ne _ _ _ _ h2).trans (heap_set_ne _ _ _ _ h1)
def isE (z : Nat) : Bool := z == 101 || z == 69
def isSg (z : Nat) : Bool := z == 43 || z == 45
def okS (pl : Bool) (was z : Nat) : Bool := isLet z || isDig z || z == 46 || (isSg z && pl && isE was)
def plS (pl : Bool) (was : Nat) : Bool := if was = 0 then pl else pl && (isDig was || was == 46)
theorem ieq (z n : Nat) : ((z : Int) == (n : Int)) = (z == n) := by rw [Bool.eq_iff_iff]; simp; omega
theorem ine (z n : Nat) : ((z : Int) != (n : Int)) = (z != n) := by simp only [bne, ieq]

set_option maxHeartbeats 8000000 in
set_option maxRecDepth 100000 in
theorem num1_core (z was a b : Nat) (pl la dg p46 p43 p45 e101 e69 n0 wd w46 : Bool) (w0 w : World) (h : NBox w0 w a b pl was)
    (hla : isLet z = la) (hdg : isDig z = dg) (h46 : (z == 46) = p46) (h43 : (z == 43) = p43) (h45 : (z == 45) = p45) (he : (was == 101) = e101) (hE : (was == 69) = e69) (hn0 : (was != 0) = n0) (hwd : isDig was = wd) (hw46 : (was == 46) = w46)
    (ok : Bool) (hok : (la || dg || p46 || ((p43 || p45) && pl && (e101 || e69))) = ok) (pn : Bool) (hpn : (if n0 = true then pl && (wd || w46) else pl) = pn) :
    Calls Tryz.prog 73 #[.int .u8 z, .pointer (some ⟨a, 0, none⟩), .pointer (some ⟨b, 0, none⟩)] w fun e w' => e = .returned (.bool ok) ∧ NBox w0 w' a b pn z ∧ Keep a b w w' := by
  have HLA := Aside0.mk hla
  have HDG := Aside0.mk hdg
  have HWD := Aside0.mk hwd
  have HN := Aside0.mk h
  have t46 : ((z : Int) == 46) = p46 := (ieq z 46).trans h46
  have t43 : ((z : Int) == 43) = p43 := (ieq z 43).trans h43
  have t45 : ((z : Int) == 45) = p45 := (ieq z 45).trans h45
  have u101 : ((was : Int) == 101) = e101 := (ieq was 101).trans he
  have u69 : ((was : Int) == 69) = e69 := (ieq was 69).trans hE
  have u0 : ((was : Int) != 0) = n0 := (ine was 0).trans hn0
  have u46 : ((was : Int) == 46) = w46 := (ieq was 46).trans hw46
  have xa := h.ca
  have xb := h.cb
  have fa := h.fa
  have fb := h.fb
  have ne1 := h.ne
  have ne2 := Ne.symm h.ne
  subst hok
  subst hpn
  clear hla hdg h46 h43 h45 he hE hn0 hwd hw46 h
  cases la
  · cases dg
    · cases p46
      · cases p43
        · cases p45
          · cases n0
            · go_enter Tryz.func73, Tryz.ntmps73
              go_wp2_with (first | (go_at_call 70; refine (letter_any z _).mono ?_; rw [HLA.out]; rintro e_ w' ⟨rfl, rfl⟩) | (go_at_call 72; with_reducible refine (digit_any z _).mono ?_; rw [HDG.out]; rintro e_ w' ⟨rfl, rfl⟩) | (go_at_call 72; with_reducible refine (digit_any was _).mono ?_; rw [HWD.out]; rintro e_ w' ⟨rfl, rfl⟩))
              go_ret
              exact ⟨by first | rfl | simp, HN.out.setB z, Keep.setB _ _ _ _⟩
            · cases pl
              · go_enter Tryz.func73, Tryz.ntmps73
                go_wp2_with (first | (go_at_call 70; refine (letter_any z _).mono ?_; rw [HLA.out]; rintro e_ w' ⟨rfl, rfl⟩) | (go_at_call 72; with_reducible refine (digit_any z _).mono ?_; rw [HDG.out]; rintro e_ w' ⟨rfl, rfl⟩) | (go_at_call 72; with_reducible refine (digit_any was _).mono ?_; rw [HWD.out]; rintro e_ w' ⟨rfl, rfl⟩))
                go_ret
                exact ⟨by first | rfl | simp, (HN.out.setA _).setB z, Keep.setAB _ _ _ _ _⟩
              · cases wd
                · cases w46
                  · go_enter Tryz.func73, Tryz.ntmps73
                    go_wp2_with (first | (go_at_call 70; refine (letter_any z _).mono ?_; rw [HLA.out]; rintro e_ w' ⟨rfl, rfl⟩) | (go_at_call 72; with_reducible refine (digit_any z _).mono ?_; rw [HDG.out]; rintro e_ w' ⟨rfl, rfl⟩) | (go_at_call 72; with_reducible refine (digit_any was _).mono ?_; rw [HWD.out]; rintro e_ w' ⟨rfl, rfl⟩))
                    go_ret
                    exact ⟨by first | rfl | simp, (HN.out.setA _).setB z, Keep.setAB _ _ _ _ _⟩
                  · go_enter Tryz.func73, Tryz.ntmps73
                    go_wp2_with (first | (go_at_call 70; refine (letter_any z _).mono ?_; rw [HLA.out]; rintro e_ w' ⟨rfl, rfl⟩) | (go_at_call 72; with_reducible refine (digit_any z _).mono ?_; rw [HDG.out]; rintro e_ w' ⟨rfl, rfl⟩) | (go_at_call 72; with_reducible refine (digit_any was _).mono ?_; rw [HWD.out]; rintro e_ w' ⟨rfl, rfl⟩))
                    go_ret
                    exact ⟨by first | rfl | simp, (HN.out.setA _).setB z, Keep.setAB _ _ _ _ _⟩
                · go_enter Tryz.func73, Tryz.ntmps73
                  go_wp2_with (first | (go_at_call 70; refine (letter_any z _).mono ?_; rw [HLA.out]; rintro e_ w' ⟨rfl, rfl⟩) | (go_at_call 72; with_reducible refine (digit_any z _).mono ?_; rw [HDG.out]; rintro e_ w' ⟨rfl, rfl⟩) | (go_at_call 72; with_reducible refine (digit_any was _).mono ?_; rw [HWD.out]; rintro e_ w' ⟨rfl, rfl⟩))
                  go_ret
                  exact ⟨by first | rfl | simp, (HN.out.setA _).setB z, Keep.setAB _ _ _ _ _⟩
          · cases pl
            · cases n0
              · go_enter Tryz.func73, Tryz.ntmps73
                go_wp2_with (first | (go_at_call 70; refine (letter_any z _).mono ?_; rw [HLA.out]; rintro e_ w' ⟨rfl, rfl⟩) | (go_at_call 72; with_reducible refine (digit_any z _).mono ?_; rw [HDG.out]; rintro e_ w' ⟨rfl, rfl⟩) | (go_at_call 72; with_reducible refine (digit_any was _).mono ?_; rw [HWD.out]; rintro e_ w' ⟨rfl, rfl⟩))
                go_ret
                exact ⟨by first | rfl | simp, HN.out.setB z, Keep.setB _ _ _ _⟩
              · go_enter Tryz.func73, Tryz.ntmps73
                go_wp2_with (first | (go_at_call 70; refine (letter_any z _).mono ?_; rw [HLA.out]; rintro e_ w' ⟨rfl, rfl⟩) | (go_at_call 72; with_reducible refine (digit_any z _).mono ?_; rw [HDG.out]; rintro e_ w' ⟨rfl, rfl⟩) | (go_at_call 72; with_reducible refine (digit_any was _).mono ?_; rw [HWD.out]; rintro e_ w' ⟨rfl, rfl⟩))
                go_ret
                exact ⟨by first | rfl | simp, (HN.out.setA _).setB z, Keep.setAB _ _ _ _ _⟩
            · cases e101
              · cases e69
                · cases n0
                  · go_enter Tryz.func73, Tryz.ntmps73
                    go_wp2_with (first | (go_at_call 70; refine (letter_any z _).mono ?_; rw [HLA.out]; rintro e_ w' ⟨rfl, rfl⟩) | (go_at_call 72; with_reducible refine (digit_any z _).mono ?_; rw [HDG.out]; rintro e_ w' ⟨rfl, rfl⟩) | (go_at_call 72; with_reducible refine (digit_any was _).mono ?_; rw [HWD.out]; rintro e_ w' ⟨rfl, rfl⟩))
                    go_ret
                    exact ⟨by first | rfl | simp, HN.out.setB z, Keep.setB _ _ _ _⟩
                  · cases wd
                    · cases w46
                      · go_enter Tryz.func73, Tryz.ntmps73
                        go_wp2_with (first | (go_at_call 70; refine (letter_any z _).mono ?_; rw [HLA.out]; rintro e_ w' ⟨rfl, rfl⟩) | (go_at_call 72; with_reducible refine (digit_any z _).mono ?_; rw [HDG.out]; rintro e_ w' ⟨rfl, rfl⟩) | (go_at_call 72; with_reducible refine (digit_any was _).mono ?_; rw [HWD.out]; rintro e_ w' ⟨rfl, rfl⟩))
                        go_ret
                        exact ⟨by first | rfl | simp, (HN.out.setA _).setB z, Keep.setAB _ _ _ _ _⟩
                      · go_enter Tryz.func73, Tryz.ntmps73
                        go_wp2_with (first | (go_at_call 70; refine (letter_any z _).mono ?_; rw [HLA.out]; rintro e_ w' ⟨rfl, rfl⟩) | (go_at_call 72; with_reducible refine (digit_any z _).mono ?_; rw [HDG.out]; rintro e_ w' ⟨rfl, rfl⟩) | (go_at_call 72; with_reducible refine (digit_any was _).mono ?_; rw [HWD.out]; rintro e_ w' ⟨rfl, rfl⟩))
                        go_ret
                        exact ⟨by first | rfl | simp, (HN.out.setA _).setB z, Keep.setAB _ _ _ _ _⟩
                    · go_enter Tryz.func73, Tryz.ntmps73
                      go_wp2_with (first | (go_at_call 70; refine (letter_any z _).mono ?_; rw [HLA.out]; rintro e_ w' ⟨rfl, rfl⟩) | (go_at_call 72; with_reducible refine (digit_any z _).mono ?_; rw [HDG.out]; rintro e_ w' ⟨rfl, rfl⟩) | (go_at_call 72; with_reducible refine (digit_any was _).mono ?_; rw [HWD.out]; rintro e_ w' ⟨rfl, rfl⟩))
                      go_ret
                      exact ⟨by first | rfl | simp, (HN.out.setA _).setB z, Keep.setAB _ _ _ _ _⟩
                · cases n0
                  · go_enter Tryz.func73, Tryz.ntmps73
                    go_wp2_with (first | (go_at_call 70; refine (letter_any z _).mono ?_; rw [HLA.out]; rintro e_ w' ⟨rfl, rfl⟩) | (go_at_call 72; with_reducible refine (digit_any z _).mono ?_; rw [HDG.out]; rintro e_ w' ⟨rfl, rfl⟩) | (go_at_call 72; with_reducible refine (digit_any was _).mono ?_; rw [HWD.out]; rintro e_ w' ⟨rfl, rfl⟩))
                    go_ret
                    exact ⟨by first | rfl | simp, HN.out.setB z, Keep.setB _ _ _ _⟩
                  · cases wd
                    · cases w46
                      · go_enter Tryz.func73, Tryz.ntmps73
                        go_wp2_with (first | (go_at_call 70; refine (letter_any z _).mono ?_; rw [HLA.out]; rintro e_ w' ⟨rfl, rfl⟩) | (go_at_call 72; with_reducible refine (digit_any z _).mono ?_; rw [HDG.out]; rintro e_ w' ⟨rfl, rfl⟩) | (go_at_call 72; with_reducible refine (digit_any was _).mono ?_; rw [HWD.out]; rintro e_ w' ⟨rfl, rfl⟩))
                        go_ret
                        exact ⟨by first | rfl | simp, (HN.out.setA _).setB z, Keep.setAB _ _ _ _ _⟩
                      · go_enter Tryz.func73, Tryz.ntmps73
                        go_wp2_with (first | (go_at_call 70; refine (letter_any z _).mono ?_; rw [HLA.out]; rintro e_ w' ⟨rfl, rfl⟩) | (go_at_call 72; with_reducible refine (digit_any z _).mono ?_; rw [HDG.out]; rintro e_ w' ⟨rfl, rfl⟩) | (go_at_call 72; with_reducible refine (digit_any was _).mono ?_; rw [HWD.out]; rintro e_ w' ⟨rfl, rfl⟩))
                        go_ret
                        exact ⟨by first | rfl | simp, (HN.out.setA _).setB z, Keep.setAB _ _ _ _ _⟩
                    · go_enter Tryz.func73, Tryz.ntmps73
                      go_wp2_with (first | (go_at_call 70; refine (letter_any z _).mono ?_; rw [HLA.out]; rintro e_ w' ⟨rfl, rfl⟩) | (go_at_call 72; with_reducible refine (digit_any z _).mono ?_; rw [HDG.out]; rintro e_ w' ⟨rfl, rfl⟩) | (go_at_call 72; with_reducible refine (digit_any was _).mono ?_; rw [HWD.out]; rintro e_ w' ⟨rfl, rfl⟩))
                      go_ret
                      exact ⟨by first | rfl | simp, (HN.out.setA _).setB z, Keep.setAB _ _ _ _ _⟩
              · cases n0
                · go_enter Tryz.func73, Tryz.ntmps73
                  go_wp2_with (first | (go_at_call 70; refine (letter_any z _).mono ?_; rw [HLA.out]; rintro e_ w' ⟨rfl, rfl⟩) | (go_at_call 72; with_reducible refine (digit_any z _).mono ?_; rw [HDG.out]; rintro e_ w' ⟨rfl, rfl⟩) | (go_at_call 72; with_reducible refine (digit_any was _).mono ?_; rw [HWD.out]; rintro e_ w' ⟨rfl, rfl⟩))
                  go_ret
                  exact ⟨by first | rfl | simp, HN.out.setB z, Keep.setB _ _ _ _⟩
                · cases wd
                  · cases w46
                    · go_enter Tryz.func73, Tryz.ntmps73
                      go_wp2_with (first | (go_at_call 70; refine (letter_any z _).mono ?_; rw [HLA.out]; rintro e_ w' ⟨rfl, rfl⟩) | (go_at_call 72; with_reducible refine (digit_any z _).mono ?_; rw [HDG.out]; rintro e_ w' ⟨rfl, rfl⟩) | (go_at_call 72; with_reducible refine (digit_any was _).mono ?_; rw [HWD.out]; rintro e_ w' ⟨rfl, rfl⟩))
                      go_ret
                      exact ⟨by first | rfl | simp, (HN.out.setA _).setB z, Keep.setAB _ _ _ _ _⟩
                    · go_enter Tryz.func73, Tryz.ntmps73
                      go_wp2_with (first | (go_at_call 70; refine (letter_any z _).mono ?_; rw [HLA.out]; rintro e_ w' ⟨rfl, rfl⟩) | (go_at_call 72; with_reducible refine (digit_any z _).mono ?_; rw [HDG.out]; rintro e_ w' ⟨rfl, rfl⟩) | (go_at_call 72; with_reducible refine (digit_any was _).mono ?_; rw [HWD.out]; rintro e_ w' ⟨rfl, rfl⟩))
                      go_ret
                      exact ⟨by first | rfl | simp, (HN.out.setA _).setB z, Keep.setAB _ _ _ _ _⟩
                  · go_enter Tryz.func73, Tryz.ntmps73
                    go_wp2_with (first | (go_at_call 70; refine (letter_any z _).mono ?_; rw [HLA.out]; rintro e_ w' ⟨rfl, rfl⟩) | (go_at_call 72; with_reducible refine (digit_any z _).mono ?_; rw [HDG.out]; rintro e_ w' ⟨rfl, rfl⟩) | (go_at_call 72; with_reducible refine (digit_any was _).mono ?_; rw [HWD.out]; rintro e_ w' ⟨rfl, rfl⟩))
                    go_ret
                    exact ⟨by first | rfl | simp, (HN.out.setA _).setB z, Keep.setAB _ _ _ _ _⟩
        · cases pl
          · cases n0
            · go_enter Tryz.func73, Tryz.ntmps73
              go_wp2_with (first | (go_at_call 70; refine (letter_any z _).mono ?_; rw [HLA.out]; rintro e_ w' ⟨rfl, rfl⟩) | (go_at_call 72; with_reducible refine (digit_any z _).mono ?_; rw [HDG.out]; rintro e_ w' ⟨rfl, rfl⟩) | (go_at_call 72; with_reducible refine (digit_any was _).mono ?_; rw [HWD.out]; rintro e_ w' ⟨rfl, rfl⟩))
              go_ret
              exact ⟨by first | rfl | simp, HN.out.setB z, Keep.setB _ _ _ _⟩
            · go_enter Tryz.func73, Tryz.ntmps73
              go_wp2_with (first | (go_at_call 70; refine (letter_any z _).mono ?_; rw [HLA.out]; rintro e_ w' ⟨rfl, rfl⟩) | (go_at_call 72; with_reducible refine (digit_any z _).mono ?_; rw [HDG.out]; rintro e_ w' ⟨rfl, rfl⟩) | (go_at_call 72; with_reducible refine (digit_any was _).mono ?_; rw [HWD.out]; rintro e_ w' ⟨rfl, rfl⟩))
              go_ret
              exact ⟨by first | rfl | simp, (HN.out.setA _).setB z, Keep.setAB _ _ _ _ _⟩
          · cases e101
            · cases e69
              · cases n0
                · go_enter Tryz.func73, Tryz.ntmps73
                  go_wp2_with (first | (go_at_call 70; refine (letter_any z _).mono ?_; rw [HLA.out]; rintro e_ w' ⟨rfl, rfl⟩) | (go_at_call 72; with_reducible refine (digit_any z _).mono ?_; rw [HDG.out]; rintro e_ w' ⟨rfl, rfl⟩) | (go_at_call 72; with_reducible refine (digit_any was _).mono ?_; rw [HWD.out]; rintro e_ w' ⟨rfl, rfl⟩))
                  go_ret
                  exact ⟨by first | rfl | simp, HN.out.setB z, Keep.setB _ _ _ _⟩
                · cases wd
                  · cases w46
                    · go_enter Tryz.func73, Tryz.ntmps73
                      go_wp2_with (first | (go_at_call 70; refine (letter_any z _).mono ?_; rw [HLA.out]; rintro e_ w' ⟨rfl, rfl⟩) | (go_at_call 72; with_reducible refine (digit_any z _).mono ?_; rw [HDG.out]; rintro e_ w' ⟨rfl, rfl⟩) | (go_at_call 72; with_reducible refine (digit_any was _).mono ?_; rw [HWD.out]; rintro e_ w' ⟨rfl, rfl⟩))
                      go_ret
                      exact ⟨by first | rfl | simp, (HN.out.setA _).setB z, Keep.setAB _ _ _ _ _⟩
                    · go_enter Tryz.func73, Tryz.ntmps73
                      go_wp2_with (first | (go_at_call 70; refine (letter_any z _).mono ?_; rw [HLA.out]; rintro e_ w' ⟨rfl, rfl⟩) | (go_at_call 72; with_reducible refine (digit_any z _).mono ?_; rw [HDG.out]; rintro e_ w' ⟨rfl, rfl⟩) | (go_at_call 72; with_reducible refine (digit_any was _).mono ?_; rw [HWD.out]; rintro e_ w' ⟨rfl, rfl⟩))
                      go_ret
                      exact ⟨by first | rfl | simp, (HN.out.setA _).setB z, Keep.setAB _ _ _ _ _⟩
                  · go_enter Tryz.func73, Tryz.ntmps73
                    go_wp2_with (first | (go_at_call 70; refine (letter_any z _).mono ?_; rw [HLA.out]; rintro e_ w' ⟨rfl, rfl⟩) | (go_at_call 72; with_reducible refine (digit_any z _).mono ?_; rw [HDG.out]; rintro e_ w' ⟨rfl, rfl⟩) | (go_at_call 72; with_reducible refine (digit_any was _).mono ?_; rw [HWD.out]; rintro e_ w' ⟨rfl, rfl⟩))
                    go_ret
                    exact ⟨by first | rfl | simp, (HN.out.setA _).setB z, Keep.setAB _ _ _ _ _⟩
              · cases n0
                · go_enter Tryz.func73, Tryz.ntmps73
                  go_wp2_with (first | (go_at_call 70; refine (letter_any z _).mono ?_; rw [HLA.out]; rintro e_ w' ⟨rfl, rfl⟩) | (go_at_call 72; with_reducible refine (digit_any z _).mono ?_; rw [HDG.out]; rintro e_ w' ⟨rfl, rfl⟩) | (go_at_call 72; with_reducible refine (digit_any was _).mono ?_; rw [HWD.out]; rintro e_ w' ⟨rfl, rfl⟩))
                  go_ret
                  exact ⟨by first | rfl | simp, HN.out.setB z, Keep.setB _ _ _ _⟩
                · cases wd
                  · cases w46
                    · go_enter Tryz.func73, Tryz.ntmps73
                      go_wp2_with (first | (go_at_call 70; refine (letter_any z _).mono ?_; rw [HLA.out]; rintro e_ w' ⟨rfl, rfl⟩) | (go_at_call 72; with_reducible refine (digit_any z _).mono ?_; rw [HDG.out]; rintro e_ w' ⟨rfl, rfl⟩) | (go_at_call 72; with_reducible refine (digit_any was _).mono ?_; rw [HWD.out]; rintro e_ w' ⟨rfl, rfl⟩))
                      go_ret
                      exact ⟨by first | rfl | simp, (HN.out.setA _).setB z, Keep.setAB _ _ _ _ _⟩
                    · go_enter Tryz.func73, Tryz.ntmps73
                      go_wp2_with (first | (go_at_call 70; refine (letter_any z _).mono ?_; rw [HLA.out]; rintro e_ w' ⟨rfl, rfl⟩) | (go_at_call 72; with_reducible refine (digit_any z _).mono ?_; rw [HDG.out]; rintro e_ w' ⟨rfl, rfl⟩) | (go_at_call 72; with_reducible refine (digit_any was _).mono ?_; rw [HWD.out]; rintro e_ w' ⟨rfl, rfl⟩))
                      go_ret
                      exact ⟨by first | rfl | simp, (HN.out.setA _).setB z, Keep.setAB _ _ _ _ _⟩
                  · go_enter Tryz.func73, Tryz.ntmps73
                    go_wp2_with (first | (go_at_call 70; refine (letter_any z _).mono ?_; rw [HLA.out]; rintro e_ w' ⟨rfl, rfl⟩) | (go_at_call 72; with_reducible refine (digit_any z _).mono ?_; rw [HDG.out]; rintro e_ w' ⟨rfl, rfl⟩) | (go_at_call 72; with_reducible refine (digit_any was _).mono ?_; rw [HWD.out]; rintro e_ w' ⟨rfl, rfl⟩))
                    go_ret
                    exact ⟨by first | rfl | simp, (HN.out.setA _).setB z, Keep.setAB _ _ _ _ _⟩
            · cases n0
              · go_enter Tryz.func73, Tryz.ntmps73
                go_wp2_with (first | (go_at_call 70; refine (letter_any z _).mono ?_; rw [HLA.out]; rintro e_ w' ⟨rfl, rfl⟩) | (go_at_call 72; with_reducible refine (digit_any z _).mono ?_; rw [HDG.out]; rintro e_ w' ⟨rfl, rfl⟩) | (go_at_call 72; with_reducible refine (digit_any was _).mono ?_; rw [HWD.out]; rintro e_ w' ⟨rfl, rfl⟩))
                go_ret
                exact ⟨by first | rfl | simp, HN.out.setB z, Keep.setB _ _ _ _⟩
              · cases wd
                · cases w46
                  · go_enter Tryz.func73, Tryz.ntmps73
                    go_wp2_with (first | (go_at_call 70; refine (letter_any z _).mono ?_; rw [HLA.out]; rintro e_ w' ⟨rfl, rfl⟩) | (go_at_call 72; with_reducible refine (digit_any z _).mono ?_; rw [HDG.out]; rintro e_ w' ⟨rfl, rfl⟩) | (go_at_call 72; with_reducible refine (digit_any was _).mono ?_; rw [HWD.out]; rintro e_ w' ⟨rfl, rfl⟩))
                    go_ret
                    exact ⟨by first | rfl | simp, (HN.out.setA _).setB z, Keep.setAB _ _ _ _ _⟩
                  · go_enter Tryz.func73, Tryz.ntmps73
                    go_wp2_with (first | (go_at_call 70; refine (letter_any z _).mono ?_; rw [HLA.out]; rintro e_ w' ⟨rfl, rfl⟩) | (go_at_call 72; with_reducible refine (digit_any z _).mono ?_; rw [HDG.out]; rintro e_ w' ⟨rfl, rfl⟩) | (go_at_call 72; with_reducible refine (digit_any was _).mono ?_; rw [HWD.out]; rintro e_ w' ⟨rfl, rfl⟩))
                    go_ret
                    exact ⟨by first | rfl | simp, (HN.out.setA _).setB z, Keep.setAB _ _ _ _ _⟩
                · go_enter Tryz.func73, Tryz.ntmps73
                  go_wp2_with (first | (go_at_call 70; refine (letter_any z _).mono ?_; rw [HLA.out]; rintro e_ w' ⟨rfl, rfl⟩) | (go_at_call 72; with_reducible refine (digit_any z _).mono ?_; rw [HDG.out]; rintro e_ w' ⟨rfl, rfl⟩) | (go_at_call 72; with_reducible refine (digit_any was _).mono ?_; rw [HWD.out]; rintro e_ w' ⟨rfl, rfl⟩))
                  go_ret
                  exact ⟨by first | rfl | simp, (HN.out.setA _).setB z, Keep.setAB _ _ _ _ _⟩
      · cases n0
        · go_enter Tryz.func73, Tryz.ntmps73
          go_wp2_with (first | (go_at_call 70; refine (letter_any z _).mono ?_; rw [HLA.out]; rintro e_ w' ⟨rfl, rfl⟩) | (go_at_call 72; with_reducible refine (digit_any z _).mono ?_; rw [HDG.out]; rintro e_ w' ⟨rfl, rfl⟩) | (go_at_call 72; with_reducible refine (digit_any was _).mono ?_; rw [HWD.out]; rintro e_ w' ⟨rfl, rfl⟩))
          go_ret
          exact ⟨by first | rfl | simp, HN.out.setB z, Keep.setB _ _ _ _⟩
        · cases pl
          · go_enter Tryz.func73, Tryz.ntmps73
            go_wp2_with (first | (go_at_call 70; refine (letter_any z _).mono ?_; rw [HLA.out]; rintro e_ w' ⟨rfl, rfl⟩) | (go_at_call 72; with_reducible refine (digit_any z _).mono ?_; rw [HDG.out]; rintro e_ w' ⟨rfl, rfl⟩) | (go_at_call 72; with_reducible refine (digit_any was _).mono ?_; rw [HWD.out]; rintro e_ w' ⟨rfl, rfl⟩))
            go_ret
            exact ⟨by first | rfl | simp, (HN.out.setA _).setB z, Keep.setAB _ _ _ _ _⟩
          · cases wd
            · cases w46
              · go_enter Tryz.func73, Tryz.ntmps73
                go_wp2_with (first | (go_at_call 70; refine (letter_any z _).mono ?_; rw [HLA.out]; rintro e_ w' ⟨rfl, rfl⟩) | (go_at_call 72; with_reducible refine (digit_any z _).mono ?_; rw [HDG.out]; rintro e_ w' ⟨rfl, rfl⟩) | (go_at_call 72; with_reducible refine (digit_any was _).mono ?_; rw [HWD.out]; rintro e_ w' ⟨rfl, rfl⟩))
                go_ret
                exact ⟨by first | rfl | simp, (HN.out.setA _).setB z, Keep.setAB _ _ _ _ _⟩
              · go_enter Tryz.func73, Tryz.ntmps73
                go_wp2_with (first | (go_at_call 70; refine (letter_any z _).mono ?_; rw [HLA.out]; rintro e_ w' ⟨rfl, rfl⟩) | (go_at_call 72; with_reducible refine (digit_any z _).mono ?_; rw [HDG.out]; rintro e_ w' ⟨rfl, rfl⟩) | (go_at_call 72; with_reducible refine (digit_any was _).mono ?_; rw [HWD.out]; rintro e_ w' ⟨rfl, rfl⟩))
                go_ret
                exact ⟨by first | rfl | simp, (HN.out.setA _).setB z, Keep.setAB _ _ _ _ _⟩
            · go_enter Tryz.func73, Tryz.ntmps73
              go_wp2_with (first | (go_at_call 70; refine (letter_any z _).mono ?_; rw [HLA.out]; rintro e_ w' ⟨rfl, rfl⟩) | (go_at_call 72; with_reducible refine (digit_any z _).mono ?_; rw [HDG.out]; rintro e_ w' ⟨rfl, rfl⟩) | (go_at_call 72; with_reducible refine (digit_any was _).mono ?_; rw [HWD.out]; rintro e_ w' ⟨rfl, rfl⟩))
              go_ret
              exact ⟨by first | rfl | simp, (HN.out.setA _).setB z, Keep.setAB _ _ _ _ _⟩
    · cases n0
      · go_enter Tryz.func73, Tryz.ntmps73
        go_wp2_with (first | (go_at_call 70; refine (letter_any z _).mono ?_; rw [HLA.out]; rintro e_ w' ⟨rfl, rfl⟩) | (go_at_call 72; with_reducible refine (digit_any z _).mono ?_; rw [HDG.out]; rintro e_ w' ⟨rfl, rfl⟩) | (go_at_call 72; with_reducible refine (digit_any was _).mono ?_; rw [HWD.out]; rintro e_ w' ⟨rfl, rfl⟩))
        go_ret
        exact ⟨by first | rfl | simp, HN.out.setB z, Keep.setB _ _ _ _⟩
      · cases pl
        · go_enter Tryz.func73, Tryz.ntmps73
          go_wp2_with (first | (go_at_call 70; refine (letter_any z _).mono ?_; rw [HLA.out]; rintro e_ w' ⟨rfl, rfl⟩) | (go_at_call 72; with_reducible refine (digit_any z _).mono ?_; rw [HDG.out]; rintro e_ w' ⟨rfl, rfl⟩) | (go_at_call 72; with_reducible refine (digit_any was _).mono ?_; rw [HWD.out]; rintro e_ w' ⟨rfl, rfl⟩))
          go_ret
          exact ⟨by first | rfl | simp, (HN.out.setA _).setB z, Keep.setAB _ _ _ _ _⟩
        · cases wd
          · cases w46
            · go_enter Tryz.func73, Tryz.ntmps73
              go_wp2_with (first | (go_at_call 70; refine (letter_any z _).mono ?_; rw [HLA.out]; rintro e_ w' ⟨rfl, rfl⟩) | (go_at_call 72; with_reducible refine (digit_any z _).mono ?_; rw [HDG.out]; rintro e_ w' ⟨rfl, rfl⟩) | (go_at_call 72; with_reducible refine (digit_any was _).mono ?_; rw [HWD.out]; rintro e_ w' ⟨rfl, rfl⟩))
              go_ret
              exact ⟨by first | rfl | simp, (HN.out.setA _).setB z, Keep.setAB _ _ _ _ _⟩
            · go_enter Tryz.func73, Tryz.ntmps73
              go_wp2_with (first | (go_at_call 70; refine (letter_any z _).mono ?_; rw [HLA.out]; rintro e_ w' ⟨rfl, rfl⟩) | (go_at_call 72; with_reducible refine (digit_any z _).mono ?_; rw [HDG.out]; rintro e_ w' ⟨rfl, rfl⟩) | (go_at_call 72; with_reducible refine (digit_any was _).mono ?_; rw [HWD.out]; rintro e_ w' ⟨rfl, rfl⟩))
              go_ret
              exact ⟨by first | rfl | simp, (HN.out.setA _).setB z, Keep.setAB _ _ _ _ _⟩
          · go_enter Tryz.func73, Tryz.ntmps73
            go_wp2_with (first | (go_at_call 70; refine (letter_any z _).mono ?_; rw [HLA.out]; rintro e_ w' ⟨rfl, rfl⟩) | (go_at_call 72; with_reducible refine (digit_any z _).mono ?_; rw [HDG.out]; rintro e_ w' ⟨rfl, rfl⟩) | (go_at_call 72; with_reducible refine (digit_any was _).mono ?_; rw [HWD.out]; rintro e_ w' ⟨rfl, rfl⟩))
            go_ret
            exact ⟨by first | rfl | simp, (HN.out.setA _).setB z, Keep.setAB _ _ _ _ _⟩
  · cases n0
    · go_enter Tryz.func73, Tryz.ntmps73
      go_wp2_with (first | (go_at_call 70; refine (letter_any z _).mono ?_; rw [HLA.out]; rintro e_ w' ⟨rfl, rfl⟩) | (go_at_call 72; with_reducible refine (digit_any z _).mono ?_; rw [HDG.out]; rintro e_ w' ⟨rfl, rfl⟩) | (go_at_call 72; with_reducible refine (digit_any was _).mono ?_; rw [HWD.out]; rintro e_ w' ⟨rfl, rfl⟩))
      go_ret
      exact ⟨by first | rfl | simp, HN.out.setB z, Keep.setB _ _ _ _⟩
    · cases pl
      · go_enter Tryz.func73, Tryz.ntmps73
        go_wp2_with (first | (go_at_call 70; refine (letter_any z _).mono ?_; rw [HLA.out]; rintro e_ w' ⟨rfl, rfl⟩) | (go_at_call 72; with_reducible refine (digit_any z _).mono ?_; rw [HDG.out]; rintro e_ w' ⟨rfl, rfl⟩) | (go_at_call 72; with_reducible refine (digit_any was _).mono ?_; rw [HWD.out]; rintro e_ w' ⟨rfl, rfl⟩))
        go_ret
        exact ⟨by first | rfl | simp, (HN.out.setA _).setB z, Keep.setAB _ _ _ _ _⟩
      · cases wd
        · cases w46
          · go_enter Tryz.func73, Tryz.ntmps73
            go_wp2_with (first | (go_at_call 70; refine (letter_any z _).mono ?_; rw [HLA.out]; rintro e_ w' ⟨rfl, rfl⟩) | (go_at_call 72; with_reducible refine (digit_any z _).mono ?_; rw [HDG.out]; rintro e_ w' ⟨rfl, rfl⟩) | (go_at_call 72; with_reducible refine (digit_any was _).mono ?_; rw [HWD.out]; rintro e_ w' ⟨rfl, rfl⟩))
            go_ret
            exact ⟨by first | rfl | simp, (HN.out.setA _).setB z, Keep.setAB _ _ _ _ _⟩
          · go_enter Tryz.func73, Tryz.ntmps73
            go_wp2_with (first | (go_at_call 70; refine (letter_any z _).mono ?_; rw [HLA.out]; rintro e_ w' ⟨rfl, rfl⟩) | (go_at_call 72; with_reducible refine (digit_any z _).mono ?_; rw [HDG.out]; rintro e_ w' ⟨rfl, rfl⟩) | (go_at_call 72; with_reducible refine (digit_any was _).mono ?_; rw [HWD.out]; rintro e_ w' ⟨rfl, rfl⟩))
            go_ret
            exact ⟨by first | rfl | simp, (HN.out.setA _).setB z, Keep.setAB _ _ _ _ _⟩
        · go_enter Tryz.func73, Tryz.ntmps73
          go_wp2_with (first | (go_at_call 70; refine (letter_any z _).mono ?_; rw [HLA.out]; rintro e_ w' ⟨rfl, rfl⟩) | (go_at_call 72; with_reducible refine (digit_any z _).mono ?_; rw [HDG.out]; rintro e_ w' ⟨rfl, rfl⟩) | (go_at_call 72; with_reducible refine (digit_any was _).mono ?_; rw [HWD.out]; rintro e_ w' ⟨rfl, rfl⟩))
          go_ret
          exact ⟨by first | rfl | simp, (HN.out.setA _).setB z, Keep.setAB _ _ _ _ _⟩
-- END
end Go.Proofs.YtjleceekccehoaaGreatDoor.Pr
