/- Texts of this session, cut down to what one claim needs and joined: PrBitsMul64, PrStrconvBool2Uint64, PrStrconvUscale, PrStrconvLog10Pow2, PrStrconvLog2Pow10, PrStrconvSkewed, PrStrconvBool2Int, PrStrconvUnroundedNudge, PrStrconvUnroundedCeil, PrStrconvUnroundedFloor, PrStrconvUnroundedRound, FfNum, FfText, FfMain. -/
import Derived.Test.YtjleceekccehoaaGreatDoorVGJ0
import Derived.Test.YtjleceekccehoaaGreatDoorVGOrd
import Derived.Test.YtjleceekccehoaaGreatDoorVGAs
import GoSem.PinnedTables
import Derived.Deep.QuietTactic
import Derived.BigQuiet
import Derived.Deep.LoopGhost
import Derived.WalkMore
import Derived.StillTailTactics
import Derived.Laws.BitsLemmas
import Derived.Lib.EndianBits
section
-- Written by a program of this session (wip/hook.py) out of the translation. Not trusted: Lean checks it.
namespace Go.Proofs.YtjleceekccehoaaGreatDoor.Pr
open Go.RowKit Go.Proofs.YtjleceekccehoaaGreatDoorW.PrintWords Go.Proofs.YtjleceekccehoaaGreatDoorW.PrintLast Go.Proofs.YtjleceekccehoaaGreatDoorW.PrintMore
attribute [local go_sem] max2_int min2_int max_two min_two max_three min_three max_four min_four   -- for this text's walks alone
set_option linter.unusedVariables false
set_option linter.unusedSimpArgs false

/-! ### bits_Mul64: function 168 -/
def bits_Mul64.f (a0 : Int) (a1 : Int) : Option (Int × Int) := some (IntKind.u64.wrap ((IntKind.u64.wrap ((IntKind.u64.wrap ((a0 / 4294967296) * (a1 / 4294967296))) + ((IntKind.u64.wrap ((IntKind.u64.wrap ((a0 / 4294967296) * (Go.bits .and .u64 a1 4294967295))) + ((IntKind.u64.wrap ((Go.bits .and .u64 a0 4294967295) * (Go.bits .and .u64 a1 4294967295))) / 4294967296))) / 4294967296))) + ((IntKind.u64.wrap ((Go.bits .and .u64 (IntKind.u64.wrap ((IntKind.u64.wrap ((a0 / 4294967296) * (Go.bits .and .u64 a1 4294967295))) + ((IntKind.u64.wrap ((Go.bits .and .u64 a0 4294967295) * (Go.bits .and .u64 a1 4294967295))) / 4294967296))) 4294967295) + (IntKind.u64.wrap ((Go.bits .and .u64 a0 4294967295) * (a1 / 4294967296))))) / 4294967296)), IntKind.u64.wrap (a0 * a1))
set_option maxHeartbeats 8000000 in
set_option maxRecDepth 100000 in
theorem bits_Mul64.calls (a0 : Int) (a1 : Int) (r1 : Int) (r2 : Int) (w : World) (h : bits_Mul64.f a0 a1 = some (r1, r2)) :
  Calls Tryz.prog 168 #[.int .u64 a0, .int .u64 a1] w fun e w' => e = .returned (.tuple #[.int .u64 r1, .int .u64 r2]) ∧ Drawn0 w w' := by
 have H : (some (IntKind.u64.wrap ((IntKind.u64.wrap ((IntKind.u64.wrap ((a0 / 4294967296) * (a1 / 4294967296))) + ((IntKind.u64.wrap ((IntKind.u64.wrap ((a0 / 4294967296) * (Go.bits .and .u64 a1 4294967295))) + ((IntKind.u64.wrap ((Go.bits .and .u64 a0 4294967295) * (Go.bits .and .u64 a1 4294967295))) / 4294967296))) / 4294967296))) + ((IntKind.u64.wrap ((Go.bits .and .u64 (IntKind.u64.wrap ((IntKind.u64.wrap ((a0 / 4294967296) * (Go.bits .and .u64 a1 4294967295))) + ((IntKind.u64.wrap ((Go.bits .and .u64 a0 4294967295) * (Go.bits .and .u64 a1 4294967295))) / 4294967296))) 4294967295) + (IntKind.u64.wrap ((Go.bits .and .u64 a0 4294967295) * (a1 / 4294967296))))) / 4294967296)), IntKind.u64.wrap (a0 * a1))) = some (r1, r2) := h
 clear h
 simp only [Option.some.injEq, Prod.mk.injEq] at H
 obtain ⟨rfl, rfl⟩ := H
 go_enter Tryz.func168, Tryz.ntmps168
 go_wp2
 go_ret2
 exact ⟨by first | rfl | (simp; done) | (simp [*]; done), by repeat (first | exact Drawn0.refl _ | apply Drawn0.step)⟩

end Go.Proofs.YtjleceekccehoaaGreatDoor.Pr
end

section
-- Written by a program of this session (wip/hook.py) out of the translation. Not trusted: Lean checks it.
namespace Go.Proofs.YtjleceekccehoaaGreatDoor.Pr
open Go.RowKit Go.Proofs.YtjleceekccehoaaGreatDoorW.PrintWords Go.Proofs.YtjleceekccehoaaGreatDoorW.PrintLast Go.Proofs.YtjleceekccehoaaGreatDoorW.PrintMore
attribute [local go_sem] max2_int min2_int max_two min_two max_three min_three max_four min_four   -- for this text's walks alone
set_option linter.unusedVariables false
set_option linter.unusedSimpArgs false

/-! ### strconv_bool2_uint64: function 161 -/
def strconv_bool2_uint64.f (a0 : Bool) : Option (Int) := if a0 = true then (some 1) else (some 0)
set_option maxHeartbeats 8000000 in
set_option maxRecDepth 100000 in
theorem strconv_bool2_uint64.calls (a0 : Bool) (r : Int) (w : World) (h : strconv_bool2_uint64.f a0 = some r) :
  Calls Tryz.prog 161 #[.bool a0] w fun e w' => e = .returned (.int .u64 r) ∧ Drawn0 w w' := by
 have H : (if a0 = true then (some 1) else (some 0)) = some r := h
 clear h
 by_cases c2 : a0 = true
 ·subst c2
  have H1 : (some 1) = some r := by rw [if_pos rfl] at H; exact H
  clear H
  have H := H1
  clear H1
  obtain rfl := Option.some.inj H
  go_enter Tryz.func161, Tryz.ntmps161
  go_wp2
  go_ret
  exact ⟨by first | rfl | (simp; done) | (simp [*]; done), by repeat (first | exact Drawn0.refl _ | apply Drawn0.step)⟩
 ·replace c2 := Bool.eq_false_iff.mpr c2
  subst c2
  have H1 : (some 0) = some r := by rw [if_neg (show ¬ (false = true) by decide)] at H; exact H
  clear H
  have H := H1
  clear H1
  obtain rfl := Option.some.inj H
  go_enter Tryz.func161, Tryz.ntmps161
  go_wp2
  go_ret
  exact ⟨by first | rfl | (simp; done) | (simp [*]; done), by repeat (first | exact Drawn0.refl _ | apply Drawn0.step)⟩

end Go.Proofs.YtjleceekccehoaaGreatDoor.Pr
end

section
-- Written by a program of this session (wip/hook.py) out of the translation. Not trusted: Lean checks it.
namespace Go.Proofs.YtjleceekccehoaaGreatDoor.Pr
open Go.RowKit Go.Proofs.YtjleceekccehoaaGreatDoorW.PrintWords Go.Proofs.YtjleceekccehoaaGreatDoorW.PrintLast Go.Proofs.YtjleceekccehoaaGreatDoorW.PrintMore
attribute [local go_sem] max2_int min2_int max_two min_two max_three min_three max_four min_four   -- for this text's walks alone
set_option linter.unusedVariables false
set_option linter.unusedSimpArgs false

/-- A state of type 186 at block g of W; what its slices lead to came in by w0. -/
def IsS186 (w0 W : World) (g : Nat) (f0 : Int) (f1 : Int) (f2 : Int) : Prop := W.heap[g]? = some (.cells #[.int .u64 f0, .int .u64 f1, .int .i64 f2] 186 (0, 0)) ∧ w0.heap.size ≤ g
theorem IsS186.grown {w0 W : World} {g : Nat} {f0 : Int} {f1 : Int} {f2 : Int} {W1 : World} {row : Option Nat} (h : IsS186 w0 W g f0 f1 f2) (hw : W.grownBy W1 row) (hne : some g ≠ row) : IsS186 w0 W1 g f0 f1 f2 := by
 obtain ⟨hb, hg⟩ := h
 exact ⟨blk_grown hb hw hne, hg⟩
theorem IsS186.kept {w0 W : World} {g : Nat} {f0 : Int} {f1 : Int} {f2 : Int} {W1 : World} {S : Nat → Prop} (h : IsS186 w0 W g f0 f1 f2) (hk : Kept W W1 S) (hne : ¬ S g) : IsS186 w0 W1 g f0 f1 f2 := by
 obtain ⟨hb, hg⟩ := h
 exact ⟨blk_kept hb hk hne, hg⟩
theorem IsS186.below {w0 W : World} {g : Nat} {f0 : Int} {f1 : Int} {f2 : Int} {W1 : World} (h : IsS186 w0 W g f0 f1 f2) (hw : Below W.heap.size W W1) : IsS186 w0 W1 g f0 f1 f2 := h.grown (grown_of_below hw none) (by simp)
theorem IsS186.alloc {w0 W : World} {g : Nat} {f0 : Int} {f1 : Int} {f2 : Int} (h : IsS186 w0 W g f0 f1 f2) (o : Obj) : IsS186 w0 (W.alloc o) g f0 f1 f2 := h.below (below_alloc (Below.refl _ _) o)
theorem IsS186.drewN {w0 W : World} {g : Nat} {f0 : Int} {f1 : Int} {f2 : Int} (h : IsS186 w0 W g f0 f1 f2) (m : Nat) : IsS186 w0 (W.drewN m) g f0 f1 f2 := h
theorem IsS186.drew {w0 W : World} {g : Nat} {f0 : Int} {f1 : Int} {f2 : Int} (h : IsS186 w0 W g f0 f1 f2) : IsS186 w0 W.drew g f0 f1 f2 := h
theorem IsS186.at_ {w0 W : World} {g : Nat} {f0 : Int} {f1 : Int} {f2 : Int} {w' : World} {m : Nat} (hq : W.drewN m = w') (h : IsS186 w0 W g f0 f1 f2) : IsS186 w0 w' g f0 f1 f2 := by subst hq; exact IsS186.drewN h m
theorem IsS186.apart {w0 W : World} {g : Nat} {f0 : Int} {f1 : Int} {f2 : Int} {α : Type} {d : Kd α} {e : Nat} {base : Nat} {ok : Nat → Prop} {v : Value} {xs : List α} (h : IsS186 w0 W g f0 f1 f2) (ho : d.R e W base ok v xs) (ht : ∀ q, q ∈ e :: d.E → q ≠ 186) : d.R e W base (fun k => ok k ∧ k ≠ g) v xs := by
 obtain ⟨hb, hg⟩ := h
 exact Kd.R_types ho hb ht
theorem IsS186.own_ne {w0 W : World} {g : Nat} {f0 : Int} {f1 : Int} {f2 : Int} {α : Type} {d : Kd α} {e : Nat} {base : Nat} {ok : Nat → Prop} {v : Value} {xs : List α} (h : IsS186 w0 W g f0 f1 f2) (ho : d.R e W base ok v xs) (ht : e ≠ 186) : some g ≠ v.ownBlock := by
 obtain ⟨hb, hg⟩ := h
 exact Kd.R_ne ho hb ht
theorem IsS186.lt {w0 W : World} {g : Nat} {f0 : Int} {f1 : Int} {f2 : Int} (h : IsS186 w0 W g f0 f1 f2) : g < W.heap.size := by
 obtain ⟨hb, hg⟩ := h
 exact blk_lt hb
theorem IsS186.ge {w0 W : World} {g : Nat} {f0 : Int} {f1 : Int} {f2 : Int} (h : IsS186 w0 W g f0 f1 f2) : w0.heap.size ≤ g := by
 obtain ⟨hb, hg⟩ := h
 exact hg
theorem cellS186_0 {W : World} {g : Nat} {f0 : Int} {f1 : Int} {f2 : Int} (h : W.heap[g]? = some (.cells #[.int .u64 f0, .int .u64 f1, .int .i64 f2] 186 (0, 0))) : W.cell? ⟨g, 0, none⟩ = some (.int .u64 f0) := (blk_cell h 0).trans rfl
theorem IsS186.set_0 {w0 W : World} {g : Nat} {f0 : Int} {f1 : Int} {f2 : Int} (h : IsS186 w0 W g f0 f1 f2) (x : Int) : IsS186 w0 (W.setCell ⟨g, 0, none⟩ (.int .u64 x)) g x f1 f2 := by
 obtain ⟨hb, hg⟩ := h
 exact ⟨by simpa using blk_set hb 0 (.int .u64 x), hg⟩
theorem cellS186_1 {W : World} {g : Nat} {f0 : Int} {f1 : Int} {f2 : Int} (h : W.heap[g]? = some (.cells #[.int .u64 f0, .int .u64 f1, .int .i64 f2] 186 (0, 0))) : W.cell? ⟨g, 1, none⟩ = some (.int .u64 f1) := (blk_cell h 1).trans rfl
theorem IsS186.set_1 {w0 W : World} {g : Nat} {f0 : Int} {f1 : Int} {f2 : Int} (h : IsS186 w0 W g f0 f1 f2) (x : Int) : IsS186 w0 (W.setCell ⟨g, 1, none⟩ (.int .u64 x)) g f0 x f2 := by
 obtain ⟨hb, hg⟩ := h
 exact ⟨by simpa using blk_set hb 1 (.int .u64 x), hg⟩
theorem cellS186_2 {W : World} {g : Nat} {f0 : Int} {f1 : Int} {f2 : Int} (h : W.heap[g]? = some (.cells #[.int .u64 f0, .int .u64 f1, .int .i64 f2] 186 (0, 0))) : W.cell? ⟨g, 2, none⟩ = some (.int .i64 f2) := (blk_cell h 2).trans rfl
theorem IsS186.set_2 {w0 W : World} {g : Nat} {f0 : Int} {f1 : Int} {f2 : Int} (h : IsS186 w0 W g f0 f1 f2) (x : Int) : IsS186 w0 (W.setCell ⟨g, 2, none⟩ (.int .i64 x)) g f0 f1 x := by
 obtain ⟨hb, hg⟩ := h
 exact ⟨by simpa using blk_set hb 2 (.int .i64 x), hg⟩
theorem IsS186.new (w0 W : World) (f0 : Int) (f1 : Int) (f2 : Int) (hB : Below w0.heap.size w0 W) : IsS186 w0 (W.alloc (.cells #[.int .u64 f0, .int .u64 f1, .int .i64 f2] 186)) W.heap.size f0 f1 f2 := ⟨by simpa using heap_alloc_new W _, hB.size⟩

/-! ### strconv_uscale: function 133 -/
def strconv_uscale.f (a0 : Int) (s1_0 : Int) (s1_1 : Int) (s1_2 : Int) : Option (Int × Int × Int × Int) := (bits_Mul64.f a0 s1_0).bind fun bt255 => (if 0 ≤ (Go.bits .and .i64 s1_2 63) then (if (shl .u64 (shr .u64 bt255.1 (Go.bits .and .i64 s1_2 63)) (Go.bits .and .i64 s1_2 63)) = bt255.1 then ((bits_Mul64.f a0 s1_1).bind fun bt257 => ((strconv_bool2_uint64.f (decide (bt255.2 < bt257.1))).bind fun t259 => ((strconv_bool2_uint64.f (decide ((IntKind.u64.wrap (bt255.2 - bt257.1)) > 1))).bind fun t260 => (some (Go.bits .or .u64 (shr .u64 (IntKind.u64.wrap (bt255.1 - t259)) (Go.bits .and .i64 s1_2 63)) t260, s1_0, s1_1, s1_2))))) else (some (Go.bits .or .u64 (shr .u64 bt255.1 (Go.bits .and .i64 s1_2 63)) 1, s1_0, s1_1, s1_2))) else (none))
set_option maxHeartbeats 8000000 in
set_option maxRecDepth 100000 in
theorem strconv_uscale.calls (a0 : Int) (g : Nat) (s1_0 : Int) (s1_1 : Int) (s1_2 : Int) (r1 : Int) (r2 : Int) (r3 : Int) (r4 : Int) (w0 w : World) (hI : IsS186 w0 w g s1_0 s1_1 s1_2) (hB : Below w0.heap.size w0 w) (h : strconv_uscale.f a0 s1_0 s1_1 s1_2 = some (r1, r2, r3, r4)) :
  Calls Tryz.prog 133 #[.int .u64 a0, .pointer (some ⟨g, 0, none⟩)] w fun e w' => e = .returned (.int .u64 r1) ∧ IsS186 w0 w' g r2 r3 r4 ∧ Below w0.heap.size w0 w' ∧ KeepBut w w' g none := by
 have HI1 := Aside0.mk hI
 have HK := Aside0.mk (KeepBut.refl w g none)
 have HL := Aside0.mk hB.size
 clear hI
 have HW0 := Aside0.mk hB.size
 have HB := Aside0.mk hB
 clear hB
 have H : ((bits_Mul64.f a0 s1_0).bind fun bt255 => (if 0 ≤ (Go.bits .and .i64 s1_2 63) then (if (shl .u64 (shr .u64 bt255.1 (Go.bits .and .i64 s1_2 63)) (Go.bits .and .i64 s1_2 63)) = bt255.1 then ((bits_Mul64.f a0 s1_1).bind fun bt257 => ((strconv_bool2_uint64.f (decide (bt255.2 < bt257.1))).bind fun t259 => ((strconv_bool2_uint64.f (decide ((IntKind.u64.wrap (bt255.2 - bt257.1)) > 1))).bind fun t260 => (some (Go.bits .or .u64 (shr .u64 (IntKind.u64.wrap (bt255.1 - t259)) (Go.bits .and .i64 s1_2 63)) t260, s1_0, s1_1, s1_2))))) else (some (Go.bits .or .u64 (shr .u64 bt255.1 (Go.bits .and .i64 s1_2 63)) 1, s1_0, s1_1, s1_2))) else (none))) = some (r1, r2, r3, r4) := h
 clear h
 replace H := Option.bind_eq_some_iff.mp H
 obtain ⟨⟨t255, t256⟩, A30, H⟩ := H
 replace H : (if 0 ≤ (Go.bits .and .i64 s1_2 63) then (if (shl .u64 (shr .u64 t255 (Go.bits .and .i64 s1_2 63)) (Go.bits .and .i64 s1_2 63)) = t255 then ((bits_Mul64.f a0 s1_1).bind fun bt257 => ((strconv_bool2_uint64.f (decide (t256 < bt257.1))).bind fun t259 => ((strconv_bool2_uint64.f (decide ((IntKind.u64.wrap (t256 - bt257.1)) > 1))).bind fun t260 => (some (Go.bits .or .u64 (shr .u64 (IntKind.u64.wrap (t255 - t259)) (Go.bits .and .i64 s1_2 63)) t260, s1_0, s1_1, s1_2))))) else (some (Go.bits .or .u64 (shr .u64 t255 (Go.bits .and .i64 s1_2 63)) 1, s1_0, s1_1, s1_2))) else (none)) = some (r1, r2, r3, r4) := H
 have A3 := Aside0.mk A30
 clear A30
 by_cases c4 : 0 ≤ (Go.bits .and .i64 s1_2 63)
 ·rw [if_pos c4] at H
  have c4b0 := eq_true c4
  have c4b1 : decide (0 ≤ (Go.bits .and .i64 s1_2 63)) = true := decide_eq_true c4
  clear c4
  obtain ⟨ji5, hji5⟩ : ∃ j_ : Int, (shr .u64 t255 (Go.bits .and .i64 s1_2 63)) = j_ := ⟨_, rfl⟩
  replace H : (if (shl .u64 (ji5) (Go.bits .and .i64 s1_2 63)) = t255 then ((bits_Mul64.f a0 s1_1).bind fun bt257 => ((strconv_bool2_uint64.f (decide (t256 < bt257.1))).bind fun t259 => ((strconv_bool2_uint64.f (decide ((IntKind.u64.wrap (t256 - bt257.1)) > 1))).bind fun t260 => (some (Go.bits .or .u64 (shr .u64 (IntKind.u64.wrap (t255 - t259)) (Go.bits .and .i64 s1_2 63)) t260, s1_0, s1_1, s1_2))))) else (some (Go.bits .or .u64 (ji5) 1, s1_0, s1_1, s1_2))) = some (r1, r2, r3, r4) := by first | (rw [hji5] at H; exact H) | (simp only [hji5] at H ⊢; exact H)
  (try rw [hji5] at A3)
  have hji5_ : (t255 / 2 ^ min (Go.bits .and .i64 s1_2 63).toNat 64) = ji5 := hji5
  have hji5z : (Go.bits .and .i64 s1_2 63) ≤ 64 → (t255 / 2 ^ (Go.bits .and .i64 s1_2 63).toNat) = ji5 := shr_small hji5
  have c6b0 := eq_true (of_decide_eq_true (by first | (with_reducible assumption) | assumption) : 0 ≤ (Go.bits .and .i64 s1_2 63))
  obtain ⟨ji7, hji7⟩ : ∃ j_ : Int, (shl .u64 (ji5) (Go.bits .and .i64 s1_2 63)) = j_ := ⟨_, rfl⟩
  replace H : (if (ji7) = t255 then ((bits_Mul64.f a0 s1_1).bind fun bt257 => ((strconv_bool2_uint64.f (decide (t256 < bt257.1))).bind fun t259 => ((strconv_bool2_uint64.f (decide ((IntKind.u64.wrap (t256 - bt257.1)) > 1))).bind fun t260 => (some (Go.bits .or .u64 (shr .u64 (IntKind.u64.wrap (t255 - t259)) (Go.bits .and .i64 s1_2 63)) t260, s1_0, s1_1, s1_2))))) else (some (Go.bits .or .u64 (ji5) 1, s1_0, s1_1, s1_2))) = some (r1, r2, r3, r4) := by first | (rw [hji7] at H; exact H) | (simp only [hji7] at H ⊢; exact H)
  (try rw [hji7] at A3)
  have hji7_ : (IntKind.u64.wrap ((ji5) * 2 ^ min (Go.bits .and .i64 s1_2 63).toNat 64)) = ji7 := hji7
  have hji7z : (Go.bits .and .i64 s1_2 63) ≤ 64 → (IntKind.u64.wrap ((ji5) * 2 ^ (Go.bits .and .i64 s1_2 63).toNat)) = ji7 := shl_small hji7
  by_cases c8 : (ji7) = t255
  ·rw [if_pos c8] at H
   have c8b0 : ((ji7) == t255) = true := beq_iff_eq.mpr c8
   have c8b1 : ((ji7) != t255) = false := bne_eq_false_iff_eq.mpr c8
   clear c8
   replace H := Option.bind_eq_some_iff.mp H
   obtain ⟨⟨t257, t258⟩, A90, H⟩ := H
   replace H : ((strconv_bool2_uint64.f (decide (t256 < t257))).bind fun t259 => ((strconv_bool2_uint64.f (decide ((IntKind.u64.wrap (t256 - t257)) > 1))).bind fun t260 => (some (Go.bits .or .u64 (shr .u64 (IntKind.u64.wrap (t255 - t259)) (Go.bits .and .i64 s1_2 63)) t260, s1_0, s1_1, s1_2)))) = some (r1, r2, r3, r4) := H
   have A9 := Aside0.mk A90
   clear A90
   replace H := Option.bind_eq_some_iff.mp H
   obtain ⟨t259, A100, H⟩ := H
   replace H : ((strconv_bool2_uint64.f (decide ((IntKind.u64.wrap (t256 - t257)) > 1))).bind fun t260 => (some (Go.bits .or .u64 (shr .u64 (IntKind.u64.wrap (t255 - t259)) (Go.bits .and .i64 s1_2 63)) t260, s1_0, s1_1, s1_2))) = some (r1, r2, r3, r4) := H
   have A10 := Aside0.mk A100
   clear A100
   have c11b0 := eq_true (of_decide_eq_true (by first | (with_reducible assumption) | assumption) : 0 ≤ (Go.bits .and .i64 s1_2 63))
   obtain ⟨ji12, hji12⟩ : ∃ j_ : Int, (shr .u64 (IntKind.u64.wrap (t255 - t259)) (Go.bits .and .i64 s1_2 63)) = j_ := ⟨_, rfl⟩
   replace H : ((strconv_bool2_uint64.f (decide ((IntKind.u64.wrap (t256 - t257)) > 1))).bind fun t260 => (some (Go.bits .or .u64 (ji12) t260, s1_0, s1_1, s1_2))) = some (r1, r2, r3, r4) := by first | (rw [hji12] at H; exact H) | (simp only [hji12] at H ⊢; exact H)
   (try rw [hji12] at A3)
   (try rw [hji12] at A9)
   (try rw [hji12] at A10)
   have hji12_ : ((IntKind.u64.wrap (t255 - t259)) / 2 ^ min (Go.bits .and .i64 s1_2 63).toNat 64) = ji12 := hji12
   have hji12z : (Go.bits .and .i64 s1_2 63) ≤ 64 → ((IntKind.u64.wrap (t255 - t259)) / 2 ^ (Go.bits .and .i64 s1_2 63).toNat) = ji12 := shr_small hji12
   replace H := Option.bind_eq_some_iff.mp H
   obtain ⟨t260, A130, H⟩ := H
   replace H : (some (Go.bits .or .u64 (ji12) t260, s1_0, s1_1, s1_2)) = some (r1, r2, r3, r4) := H
   have A13 := Aside0.mk A130
   clear A130
   simp only [Option.some.injEq, Prod.mk.injEq] at H
   obtain ⟨rfl, rfl, rfl, rfl⟩ := H
   obtain ⟨HGz14, hgz14⟩ := HI1.out
   have hcz14_0 := cellS186_0 HGz14
   have hcz14_1 := cellS186_1 HGz14
   have hcz14_2 := cellS186_2 HGz14
   have hfz14_0 := blk_frozen HGz14 0
   have hfz14_1 := blk_frozen HGz14 1
   have hfz14_2 := blk_frozen HGz14 2
   clear HGz14 hgz14
   go_enter Tryz.func133, Tryz.ntmps133
   go_wp2_with (first | (go_at_call 168; (with_reducible refine (bits_Mul64.calls a0 s1_0 t255 t256 _ A3.out).mono ?_); rintro e w' ⟨rfl, ⟨nd, rfl⟩⟩; (try first | exact ⟨rfl, _, World.drewN_drewN _ _ _⟩ | exact ⟨rfl, _, Eq.trans (World.drewN_drewN _ _ _) (congrArg (World.drewN _) (Nat.add_assoc _ _ _))⟩)) | (go_at_call 168; (with_reducible refine (bits_Mul64.calls a0 s1_1 t257 t258 _ A9.out).mono ?_); rintro e w' ⟨rfl, ⟨nd, rfl⟩⟩; (try first | exact ⟨rfl, _, World.drewN_drewN _ _ _⟩ | exact ⟨rfl, _, Eq.trans (World.drewN_drewN _ _ _) (congrArg (World.drewN _) (Nat.add_assoc _ _ _))⟩)) | (go_at_call 161; (with_reducible refine (strconv_bool2_uint64.calls (decide (t256 < t257)) t259 _ A10.out).mono ?_); rintro e w' ⟨rfl, ⟨nd, rfl⟩⟩; (try first | exact ⟨rfl, _, World.drewN_drewN _ _ _⟩ | exact ⟨rfl, _, Eq.trans (World.drewN_drewN _ _ _) (congrArg (World.drewN _) (Nat.add_assoc _ _ _))⟩)) | (go_at_call 161; (with_reducible refine (strconv_bool2_uint64.calls (decide ((IntKind.u64.wrap (t256 - t257)) > 1)) t260 _ A13.out).mono ?_); rintro e w' ⟨rfl, ⟨nd, rfl⟩⟩; (try first | exact ⟨rfl, _, World.drewN_drewN _ _ _⟩ | exact ⟨rfl, _, Eq.trans (World.drewN_drewN _ _ _) (congrArg (World.drewN _) (Nat.add_assoc _ _ _))⟩)))
   repeat (go_quiet (first | (go_at_call 168; (with_reducible refine (bits_Mul64.calls a0 s1_0 t255 t256 _ A3.out).mono ?_); rintro e w' ⟨rfl, ⟨nd, rfl⟩⟩; (try first | exact ⟨rfl, _, World.drewN_drewN _ _ _⟩ | exact ⟨rfl, _, Eq.trans (World.drewN_drewN _ _ _) (congrArg (World.drewN _) (Nat.add_assoc _ _ _))⟩)) | (go_at_call 168; (with_reducible refine (bits_Mul64.calls a0 s1_1 t257 t258 _ A9.out).mono ?_); rintro e w' ⟨rfl, ⟨nd, rfl⟩⟩; (try first | exact ⟨rfl, _, World.drewN_drewN _ _ _⟩ | exact ⟨rfl, _, Eq.trans (World.drewN_drewN _ _ _) (congrArg (World.drewN _) (Nat.add_assoc _ _ _))⟩)) | (go_at_call 161; (with_reducible refine (strconv_bool2_uint64.calls (decide (t256 < t257)) t259 _ A10.out).mono ?_); rintro e w' ⟨rfl, ⟨nd, rfl⟩⟩; (try first | exact ⟨rfl, _, World.drewN_drewN _ _ _⟩ | exact ⟨rfl, _, Eq.trans (World.drewN_drewN _ _ _) (congrArg (World.drewN _) (Nat.add_assoc _ _ _))⟩)) | (go_at_call 161; (with_reducible refine (strconv_bool2_uint64.calls (decide ((IntKind.u64.wrap (t256 - t257)) > 1)) t260 _ A13.out).mono ?_); rintro e w' ⟨rfl, ⟨nd, rfl⟩⟩; (try first | exact ⟨rfl, _, World.drewN_drewN _ _ _⟩ | exact ⟨rfl, _, Eq.trans (World.drewN_drewN _ _ _) (congrArg (World.drewN _) (Nat.add_assoc _ _ _))⟩))); try go_wp2_with (first | (go_at_call 168; (with_reducible refine (bits_Mul64.calls a0 s1_0 t255 t256 _ A3.out).mono ?_); rintro e w' ⟨rfl, ⟨nd, rfl⟩⟩; (try first | exact ⟨rfl, _, World.drewN_drewN _ _ _⟩ | exact ⟨rfl, _, Eq.trans (World.drewN_drewN _ _ _) (congrArg (World.drewN _) (Nat.add_assoc _ _ _))⟩)) | (go_at_call 168; (with_reducible refine (bits_Mul64.calls a0 s1_1 t257 t258 _ A9.out).mono ?_); rintro e w' ⟨rfl, ⟨nd, rfl⟩⟩; (try first | exact ⟨rfl, _, World.drewN_drewN _ _ _⟩ | exact ⟨rfl, _, Eq.trans (World.drewN_drewN _ _ _) (congrArg (World.drewN _) (Nat.add_assoc _ _ _))⟩)) | (go_at_call 161; (with_reducible refine (strconv_bool2_uint64.calls (decide (t256 < t257)) t259 _ A10.out).mono ?_); rintro e w' ⟨rfl, ⟨nd, rfl⟩⟩; (try first | exact ⟨rfl, _, World.drewN_drewN _ _ _⟩ | exact ⟨rfl, _, Eq.trans (World.drewN_drewN _ _ _) (congrArg (World.drewN _) (Nat.add_assoc _ _ _))⟩)) | (go_at_call 161; (with_reducible refine (strconv_bool2_uint64.calls (decide ((IntKind.u64.wrap (t256 - t257)) > 1)) t260 _ A13.out).mono ?_); rintro e w' ⟨rfl, ⟨nd, rfl⟩⟩; (try first | exact ⟨rfl, _, World.drewN_drewN _ _ _⟩ | exact ⟨rfl, _, Eq.trans (World.drewN_drewN _ _ _) (congrArg (World.drewN _) (Nat.add_assoc _ _ _))⟩))))
   go_ret
   exact ⟨by first | rfl | (simp [errW_none, errW_some] <;> rfl) | (simp only [← hji5, ← hji7, ← hji12]; first | rfl | (simp [errW_none, errW_some] <;> rfl)) | (simp [*, errW_none, errW_some] <;> rfl), by repeat (first | (with_reducible first | exact HI1.out | apply IsS186.alloc | apply IsS186.drewN | apply IsS186.drew | apply IsS186.set_0 | apply IsS186.set_1 | apply IsS186.set_2) | exact HI1.out), by repeat (first | (with_reducible first | exact HB.out | apply below_alloc | apply pw_below_drewN | apply below_drew1 | refine below_set ?_ (IsS186.ge HI1.out)) | exact HB.out), by repeat (first | (with_reducible first | exact HK.out | apply KeepBut.set_ | apply keep_drewN | apply keep_drew | apply keep_alloc) | exact HK.out)⟩
  ·rw [if_neg c8] at H
   have c8b0 : ((ji7) == t255) = false := beq_eq_false_iff_ne.mpr c8
   have c8b1 : ((ji7) != t255) = true := bne_iff_ne.mpr c8
   have c15b0 := eq_true (of_decide_eq_true (by first | (with_reducible assumption) | assumption) : 0 ≤ (Go.bits .and .i64 s1_2 63))
   simp only [Option.some.injEq, Prod.mk.injEq] at H
   obtain ⟨rfl, rfl, rfl, rfl⟩ := H
   obtain ⟨HGz17, hgz17⟩ := HI1.out
   have hcz17_0 := cellS186_0 HGz17
   have hcz17_1 := cellS186_1 HGz17
   have hcz17_2 := cellS186_2 HGz17
   have hfz17_0 := blk_frozen HGz17 0
   have hfz17_1 := blk_frozen HGz17 1
   have hfz17_2 := blk_frozen HGz17 2
   clear HGz17 hgz17
   go_enter Tryz.func133, Tryz.ntmps133
   go_wp2_with (first | (go_at_call 168; (with_reducible refine (bits_Mul64.calls a0 s1_0 t255 t256 _ A3.out).mono ?_); rintro e w' ⟨rfl, ⟨nd, rfl⟩⟩; (try first | exact ⟨rfl, _, World.drewN_drewN _ _ _⟩ | exact ⟨rfl, _, Eq.trans (World.drewN_drewN _ _ _) (congrArg (World.drewN _) (Nat.add_assoc _ _ _))⟩)))
   repeat (go_quiet (first | (go_at_call 168; (with_reducible refine (bits_Mul64.calls a0 s1_0 t255 t256 _ A3.out).mono ?_); rintro e w' ⟨rfl, ⟨nd, rfl⟩⟩; (try first | exact ⟨rfl, _, World.drewN_drewN _ _ _⟩ | exact ⟨rfl, _, Eq.trans (World.drewN_drewN _ _ _) (congrArg (World.drewN _) (Nat.add_assoc _ _ _))⟩))); try go_wp2_with (first | (go_at_call 168; (with_reducible refine (bits_Mul64.calls a0 s1_0 t255 t256 _ A3.out).mono ?_); rintro e w' ⟨rfl, ⟨nd, rfl⟩⟩; (try first | exact ⟨rfl, _, World.drewN_drewN _ _ _⟩ | exact ⟨rfl, _, Eq.trans (World.drewN_drewN _ _ _) (congrArg (World.drewN _) (Nat.add_assoc _ _ _))⟩))))
   go_ret
   exact ⟨by first | rfl | (simp [errW_none, errW_some] <;> rfl) | (simp only [← hji5, ← hji7]; first | rfl | (simp [errW_none, errW_some] <;> rfl)) | (simp [*, errW_none, errW_some] <;> rfl), by repeat (first | (with_reducible first | exact HI1.out | apply IsS186.alloc | apply IsS186.drewN | apply IsS186.drew | apply IsS186.set_0 | apply IsS186.set_1 | apply IsS186.set_2) | exact HI1.out), by repeat (first | (with_reducible first | exact HB.out | apply below_alloc | apply pw_below_drewN | apply below_drew1 | refine below_set ?_ (IsS186.ge HI1.out)) | exact HB.out), by repeat (first | (with_reducible first | exact HK.out | apply KeepBut.set_ | apply keep_drewN | apply keep_drew | apply keep_alloc) | exact HK.out)⟩
 ·rw [if_neg c4] at H
  exact absurd H (by simp)

end Go.Proofs.YtjleceekccehoaaGreatDoor.Pr
end

section
-- Written by a program of this session (wip/hook.py) out of the translation. Not trusted: Lean checks it.
namespace Go.Proofs.YtjleceekccehoaaGreatDoor.Pr
open Go.RowKit Go.Proofs.YtjleceekccehoaaGreatDoorW.PrintWords Go.Proofs.YtjleceekccehoaaGreatDoorW.PrintLast Go.Proofs.YtjleceekccehoaaGreatDoorW.PrintMore
attribute [local go_sem] max2_int min2_int max_two min_two max_three min_three max_four min_four   -- for this text's walks alone
set_option linter.unusedVariables false
set_option linter.unusedSimpArgs false

/-! ### strconv_log10Pow2: function 104 -/
def strconv_log10Pow2.f (a0 : Int) : Option (Int) := some ((wrap64 (a0 * 78913)) / 262144)
set_option maxHeartbeats 8000000 in
set_option maxRecDepth 100000 in
theorem strconv_log10Pow2.calls (a0 : Int) (r : Int) (w : World) (h : strconv_log10Pow2.f a0 = some r) :
  Calls Tryz.prog 104 #[.int .i64 a0] w fun e w' => e = .returned (.int .i64 r) ∧ Drawn0 w w' := by
 have H : (some ((wrap64 (a0 * 78913)) / 262144)) = some r := h
 clear h
 obtain rfl := Option.some.inj H
 go_enter Tryz.func104, Tryz.ntmps104
 go_wp2
 go_ret
 exact ⟨by first | rfl | (simp; done) | (simp [*]; done), by repeat (first | exact Drawn0.refl _ | apply Drawn0.step)⟩

end Go.Proofs.YtjleceekccehoaaGreatDoor.Pr
end

section
-- Written by a program of this session (wip/hook.py) out of the translation. Not trusted: Lean checks it.
namespace Go.Proofs.YtjleceekccehoaaGreatDoor.Pr
open Go.RowKit Go.Proofs.YtjleceekccehoaaGreatDoorW.PrintWords Go.Proofs.YtjleceekccehoaaGreatDoorW.PrintLast Go.Proofs.YtjleceekccehoaaGreatDoorW.PrintMore
attribute [local go_sem] max2_int min2_int max_two min_two max_three min_three max_four min_four   -- for this text's walks alone
set_option linter.unusedVariables false
set_option linter.unusedSimpArgs false

/-! ### strconv_log2Pow10: function 132 -/
def strconv_log2Pow10.f (a0 : Int) : Option (Int) := some ((wrap64 (a0 * 108853)) / 32768)
set_option maxHeartbeats 8000000 in
set_option maxRecDepth 100000 in
theorem strconv_log2Pow10.calls (a0 : Int) (r : Int) (w : World) (h : strconv_log2Pow10.f a0 = some r) :
  Calls Tryz.prog 132 #[.int .i64 a0] w fun e w' => e = .returned (.int .i64 r) ∧ Drawn0 w w' := by
 have H : (some ((wrap64 (a0 * 108853)) / 32768)) = some r := h
 clear h
 obtain rfl := Option.some.inj H
 go_enter Tryz.func132, Tryz.ntmps132
 go_wp2
 go_ret
 exact ⟨by first | rfl | (simp; done) | (simp [*]; done), by repeat (first | exact Drawn0.refl _ | apply Drawn0.step)⟩

end Go.Proofs.YtjleceekccehoaaGreatDoor.Pr
end

section
-- Written by a program of this session (wip/hook.py) out of the translation. Not trusted: Lean checks it.
namespace Go.Proofs.YtjleceekccehoaaGreatDoor.Pr
open Go.RowKit Go.Proofs.YtjleceekccehoaaGreatDoorW.PrintWords Go.Proofs.YtjleceekccehoaaGreatDoorW.PrintLast Go.Proofs.YtjleceekccehoaaGreatDoorW.PrintMore
attribute [local go_sem] max2_int min2_int max_two min_two max_three min_three max_four min_four   -- for this text's walks alone
set_option linter.unusedVariables false
set_option linter.unusedSimpArgs false

/-! ### strconv_skewed: function 130 -/
def strconv_skewed.f (a0 : Int) : Option (Int) := some ((wrap64 ((wrap64 (a0 * 631305)) - 261663)) / 2097152)
set_option maxHeartbeats 8000000 in
set_option maxRecDepth 100000 in
theorem strconv_skewed.calls (a0 : Int) (r : Int) (w : World) (h : strconv_skewed.f a0 = some r) :
  Calls Tryz.prog 130 #[.int .i64 a0] w fun e w' => e = .returned (.int .i64 r) ∧ Drawn0 w w' := by
 have H : (some ((wrap64 ((wrap64 (a0 * 631305)) - 261663)) / 2097152)) = some r := h
 clear h
 obtain rfl := Option.some.inj H
 go_enter Tryz.func130, Tryz.ntmps130
 go_wp2
 go_ret
 exact ⟨by first | rfl | (simp; done) | (simp [*]; done), by repeat (first | exact Drawn0.refl _ | apply Drawn0.step)⟩

end Go.Proofs.YtjleceekccehoaaGreatDoor.Pr
end

section
-- Written by a program of this session (wip/hook.py) out of the translation. Not trusted: Lean checks it.
namespace Go.Proofs.YtjleceekccehoaaGreatDoor.Pr
open Go.RowKit Go.Proofs.YtjleceekccehoaaGreatDoorW.PrintWords Go.Proofs.YtjleceekccehoaaGreatDoorW.PrintLast Go.Proofs.YtjleceekccehoaaGreatDoorW.PrintMore
attribute [local go_sem] max2_int min2_int max_two min_two max_three min_three max_four min_four   -- for this text's walks alone
set_option linter.unusedVariables false
set_option linter.unusedSimpArgs false

/-! ### strconv_bool2_int: function 139 -/
def strconv_bool2_int.f (a0 : Bool) : Option (Int) := if a0 = true then (some 1) else (some 0)
set_option maxHeartbeats 8000000 in
set_option maxRecDepth 100000 in
theorem strconv_bool2_int.calls (a0 : Bool) (r : Int) (w : World) (h : strconv_bool2_int.f a0 = some r) :
  Calls Tryz.prog 139 #[.bool a0] w fun e w' => e = .returned (.int .i64 r) ∧ Drawn0 w w' := by
 have H : (if a0 = true then (some 1) else (some 0)) = some r := h
 clear h
 by_cases c2 : a0 = true
 ·subst c2
  have H1 : (some 1) = some r := by rw [if_pos rfl] at H; exact H
  clear H
  have H := H1
  clear H1
  obtain rfl := Option.some.inj H
  go_enter Tryz.func139, Tryz.ntmps139
  go_wp2
  go_ret
  exact ⟨by first | rfl | (simp; done) | (simp [*]; done), by repeat (first | exact Drawn0.refl _ | apply Drawn0.step)⟩
 ·replace c2 := Bool.eq_false_iff.mpr c2
  subst c2
  have H1 : (some 0) = some r := by rw [if_neg (show ¬ (false = true) by decide)] at H; exact H
  clear H
  have H := H1
  clear H1
  obtain rfl := Option.some.inj H
  go_enter Tryz.func139, Tryz.ntmps139
  go_wp2
  go_ret
  exact ⟨by first | rfl | (simp; done) | (simp [*]; done), by repeat (first | exact Drawn0.refl _ | apply Drawn0.step)⟩

end Go.Proofs.YtjleceekccehoaaGreatDoor.Pr
end

section
-- Written by a program of this session (wip/hook.py) out of the translation. Not trusted: Lean checks it.
namespace Go.Proofs.YtjleceekccehoaaGreatDoor.Pr
open Go.RowKit Go.Proofs.YtjleceekccehoaaGreatDoorW.PrintWords Go.Proofs.YtjleceekccehoaaGreatDoorW.PrintLast Go.Proofs.YtjleceekccehoaaGreatDoorW.PrintMore
attribute [local go_sem] max2_int min2_int max_two min_two max_three min_three max_four min_four   -- for this text's walks alone
set_option linter.unusedVariables false
set_option linter.unusedSimpArgs false

/-! ### strconv_unrounded_nudge: function 134 -/
def strconv_unrounded_nudge.f (a0 : Int) (a1 : Int) : Option (Int) := some (IntKind.u64.wrap (a0 + (IntKind.u64.wrap (a1))))
set_option maxHeartbeats 8000000 in
set_option maxRecDepth 100000 in
theorem strconv_unrounded_nudge.calls (a0 : Int) (a1 : Int) (r : Int) (w : World) (h : strconv_unrounded_nudge.f a0 a1 = some r) :
  Calls Tryz.prog 134 #[.int .u64 a0, .int .i64 a1] w fun e w' => e = .returned (.int .u64 r) ∧ Drawn0 w w' := by
 have H : (some (IntKind.u64.wrap (a0 + (IntKind.u64.wrap (a1))))) = some r := h
 clear h
 obtain rfl := Option.some.inj H
 go_enter Tryz.func134, Tryz.ntmps134
 go_wp2
 go_ret
 exact ⟨by first | rfl | (simp; done) | (simp [*]; done), by repeat (first | exact Drawn0.refl _ | apply Drawn0.step)⟩

end Go.Proofs.YtjleceekccehoaaGreatDoor.Pr
end

section
-- Written by a program of this session (wip/hook.py) out of the translation. Not trusted: Lean checks it.
namespace Go.Proofs.YtjleceekccehoaaGreatDoor.Pr
open Go.RowKit Go.Proofs.YtjleceekccehoaaGreatDoorW.PrintWords Go.Proofs.YtjleceekccehoaaGreatDoorW.PrintLast Go.Proofs.YtjleceekccehoaaGreatDoorW.PrintMore
attribute [local go_sem] max2_int min2_int max_two min_two max_three min_three max_four min_four   -- for this text's walks alone
set_option linter.unusedVariables false
set_option linter.unusedSimpArgs false

/-! ### strconv_unrounded_ceil: function 135 -/
def strconv_unrounded_ceil.f (a0 : Int) : Option (Int) := some ((IntKind.u64.wrap (a0 + 3)) / 4)
set_option maxHeartbeats 8000000 in
set_option maxRecDepth 100000 in
theorem strconv_unrounded_ceil.calls (a0 : Int) (r : Int) (w : World) (h : strconv_unrounded_ceil.f a0 = some r) :
  Calls Tryz.prog 135 #[.int .u64 a0] w fun e w' => e = .returned (.int .u64 r) ∧ Drawn0 w w' := by
 have H : (some ((IntKind.u64.wrap (a0 + 3)) / 4)) = some r := h
 clear h
 obtain rfl := Option.some.inj H
 go_enter Tryz.func135, Tryz.ntmps135
 go_wp2
 go_ret
 exact ⟨by first | rfl | (simp; done) | (simp [*]; done), by repeat (first | exact Drawn0.refl _ | apply Drawn0.step)⟩

end Go.Proofs.YtjleceekccehoaaGreatDoor.Pr
end

section
-- Written by a program of this session (wip/hook.py) out of the translation. Not trusted: Lean checks it.
namespace Go.Proofs.YtjleceekccehoaaGreatDoor.Pr
open Go.RowKit Go.Proofs.YtjleceekccehoaaGreatDoorW.PrintWords Go.Proofs.YtjleceekccehoaaGreatDoorW.PrintLast Go.Proofs.YtjleceekccehoaaGreatDoorW.PrintMore
attribute [local go_sem] max2_int min2_int max_two min_two max_three min_three max_four min_four   -- for this text's walks alone
set_option linter.unusedVariables false
set_option linter.unusedSimpArgs false

/-! ### strconv_unrounded_floor: function 136 -/
def strconv_unrounded_floor.f (a0 : Int) : Option (Int) := some ((IntKind.u64.wrap (a0 + 0)) / 4)
set_option maxHeartbeats 8000000 in
set_option maxRecDepth 100000 in
theorem strconv_unrounded_floor.calls (a0 : Int) (r : Int) (w : World) (h : strconv_unrounded_floor.f a0 = some r) :
  Calls Tryz.prog 136 #[.int .u64 a0] w fun e w' => e = .returned (.int .u64 r) ∧ Drawn0 w w' := by
 have H : (some ((IntKind.u64.wrap (a0 + 0)) / 4)) = some r := h
 clear h
 obtain rfl := Option.some.inj H
 go_enter Tryz.func136, Tryz.ntmps136
 go_wp2
 go_ret
 exact ⟨by first | rfl | (simp; done) | (simp [*]; done), by repeat (first | exact Drawn0.refl _ | apply Drawn0.step)⟩

end Go.Proofs.YtjleceekccehoaaGreatDoor.Pr
end

section
-- Written by a program of this session (wip/hook.py) out of the translation. Not trusted: Lean checks it.
namespace Go.Proofs.YtjleceekccehoaaGreatDoor.Pr
open Go.RowKit Go.Proofs.YtjleceekccehoaaGreatDoorW.PrintWords Go.Proofs.YtjleceekccehoaaGreatDoorW.PrintLast Go.Proofs.YtjleceekccehoaaGreatDoorW.PrintMore
attribute [local go_sem] max2_int min2_int max_two min_two max_three min_three max_four min_four   -- for this text's walks alone
set_option linter.unusedVariables false
set_option linter.unusedSimpArgs false

/-! ### strconv_unrounded_round: function 137 -/
def strconv_unrounded_round.f (a0 : Int) : Option (Int) := some ((IntKind.u64.wrap ((IntKind.u64.wrap (a0 + 1)) + (Go.bits .and .u64 (a0 / 4) 1))) / 4)
set_option maxHeartbeats 8000000 in
set_option maxRecDepth 100000 in
theorem strconv_unrounded_round.calls (a0 : Int) (r : Int) (w : World) (h : strconv_unrounded_round.f a0 = some r) :
  Calls Tryz.prog 137 #[.int .u64 a0] w fun e w' => e = .returned (.int .u64 r) ∧ Drawn0 w w' := by
 have H : (some ((IntKind.u64.wrap ((IntKind.u64.wrap (a0 + 1)) + (Go.bits .and .u64 (a0 / 4) 1))) / 4)) = some r := h
 clear h
 obtain rfl := Option.some.inj H
 go_enter Tryz.func137, Tryz.ntmps137
 go_wp2
 go_ret
 exact ⟨by first | rfl | (simp; done) | (simp [*]; done), by repeat (first | exact Drawn0.refl _ | apply Drawn0.step)⟩

end Go.Proofs.YtjleceekccehoaaGreatDoor.Pr
end

section
set_option linter.unusedVariables false
set_option linter.unusedSimpArgs false
namespace Go.Proofs.YtjleceekccehoaaGreatDoor.Pr
open Go.RowKit Go.Proofs.YtjleceekccehoaaGreatDoorW.PrintWords Go.Proofs.YtjleceekccehoaaGreatDoorW.PrintLast Go.Proofs.YtjleceekccehoaaGreatDoorW.PrintMore

def p10 (i : Nat) : Int := ((10 ^ i : Nat) : Int)
def hiT (i : Nat) : Int := ((Go.Pinned.pow10Rows.getD i (0, 0)).1 : Nat)
def loT (i : Nat) : Int := ((Go.Pinned.pow10Rows.getD i (0, 0)).2 : Nat)
/-- What strconv's tables hold. -/
structure LaidF (w : World) : Prop where
 pow : ∀ i, i < 20 → w.cell? ⟨9, i, none⟩ = some (.int .u64 (p10 i))
 hi : ∀ i, i < 696 → w.cell? ⟨14, i * 2, none⟩ = some (.int .u64 (hiT i))
 lo : ∀ i, i < 696 → w.cell? ⟨14, i * 2 + 1, none⟩ = some (.int .u64 (loT i))
theorem LaidF.below {w w' : World} (h : LaidF w) (hb : Below w.heap.size w w') : LaidF w' :=
 ⟨fun i hi => pw_cell_below hb (h.pow i hi), fun i hi => pw_cell_below hb (h.hi i hi), fun i hi => pw_cell_below hb (h.lo i hi)⟩

def len64 (x : Int) : Int := (Lib.bitLen x.toNat : Nat)
theorem len_any (x : Int) (h0 : 0 ≤ x) (h1 : x ≤ 18446744073709551615) (w : World) : Calls Tryz.prog 100 #[.int .u64 x] w fun e w' => e = .returned (.int .i64 (len64 x)) ∧ w = w' :=
 (Any.bits_Len64 Tryz.lays129 x w h0 h1).mono fun _ _ ⟨a, b⟩ => ⟨a, b.symm⟩
def l2 (x : Int) : Int := wrap64 (x * 108853) / 32768
theorem l2_any (x : Int) (w : World) : Calls Tryz.prog 132 #[.int .i64 x] w fun e w' => e = .returned (.int .i64 (l2 x)) ∧ Drawn0 w w' := strconv_log2Pow10.calls x _ w rfl
def b2i (b : Bool) : Int := if b = true then 1 else 0
theorem b2i_any (b : Bool) (w : World) : Calls Tryz.prog 139 #[.bool b] w fun e w' => e = .returned (.int .i64 (b2i b)) ∧ Drawn0 w w' := strconv_bool2_int.calls b _ w (by cases b <;> rfl)

theorem bitLenAux_le (f : Nat) : ∀ x, Lib.bitLenAux f x ≤ f := by
 induction f with
 | zero => intro x; simp [Lib.bitLenAux]
 | succ f ih => intro x; unfold Lib.bitLenAux; split; omega; have := ih (x / 2); omega
theorem len64_bd (x : Int) : 0 ≤ len64 x ∧ len64 x ≤ 64 := by
 have := bitLenAux_le 64 x.toNat
 unfold len64 Lib.bitLen; omega
def preS (e lp : Int) : Int := wrap64 (-wrap64 (wrap64 (e + lp) + 3))
set_option maxHeartbeats 4000000 in
set_option maxRecDepth 100000 in
theorem prescale_any (g : Nat) (s0 s1 s2 : Int) (e p lp : Int) (h0 : 0 ≤ p + 348) (h1 : p + 348 < 696) (w0 w : World) (hI : IsS186 w0 w g s0 s1 s2) (hB : Below w0.heap.size w0 w) (hL : LaidF w0) :
  Calls Tryz.prog 131 #[.pointer (some ⟨g, 0, none⟩), .int .i64 e, .int .i64 p, .int .i64 lp] w fun e_ w' => e_ = .returned (.tuple #[]) ∧ IsS186 w0 w' g (hiT (p + 348).toNat) (loT (p + 348).toNat) (preS e lp) ∧ Below w0.heap.size w0 w' := by
 obtain ⟨q, hq⟩ : ∃ q, q = p + 348 := ⟨_, rfl⟩
 have hc1 := hL.hi q.toNat (by omega)
 have hc2 := hL.lo q.toNat (by omega)
 have lt1 := World.block_lt_of_cell? w0 _ hc1
 replace hc1 := pw_cell_below hB hc1
 replace hc2 := pw_cell_below hB hc2
 have hge := hI.ge
 have hne : ¬ g = 14 := by
  intro he; rw [he] at hge; simp at lt1; omega
 have z0 : 0 ≤ q := by omega
 have z1 : q < 696 := by omega
 have z2 : IntKind.i64.wrap (p - (-348)) = q := by rw [IntWalk.i64_in _ (by omega)]; omega
 have z3 : IntKind.i64.wrap (p + 348) = q := by rw [IntWalk.i64_in _ (by omega)]; omega
 obtain ⟨HG, hg⟩ := hI
 have x0 := cellS186_0 HG
 have x1 := cellS186_1 HG
 have x2 := cellS186_2 HG
 have f0 := (Blk.frozen (w := w) (g := g) (t := 186) HG)
 have k0 := f0 0
 have k1 := f0 1
 have k2 := f0 2
 have HI : Aside0 (IsS186 w0 w g s0 s1 s2) := ⟨⟨HG, hg⟩⟩
 have HB := Aside0.mk hB
 rw [← hq]
 clear HG hg hB f0 hL hge lt1 hq h0 h1
 go_enter Tryz.func131, Tryz.ntmps131
 go_wp2
 go_end0
 exact ⟨rfl, ((HI.out.set_0 _).set_1 _).set_2 _, below_set (below_set (below_set HB.out (IsS186.ge HI.out)) (IsS186.ge HI.out)) (IsS186.ge HI.out)⟩

/-- What uscale returns. -/
def usc (x hi lo s : Int) : Int := ((strconv_uscale.f x hi lo s).map (·.1)).getD 0
theorem and63 (s : Int) : 0 ≤ Go.bits .and .i64 s 63 := by
 have h : ((BitVec.ofInt 64 s) &&& (BitVec.ofInt 64 63)).toNat ≤ 63 := by rw [BitVec.toNat_and]; exact Nat.and_le_right
 show 0 ≤ IntKind.i64.wrap (((BitVec.ofInt 64 s) &&& (BitVec.ofInt 64 63)).toNat : Nat)
 rw [IntWalk.i64_in _ (by omega)]; omega
theorem usc_f (x hi lo s : Int) : strconv_uscale.f x hi lo s = some (usc x hi lo s, hi, lo, s) := by
 have h63 := and63 s
 have hb : ∀ b, strconv_bool2_uint64.f b = some (if b = true then 1 else 0) := by intro b; cases b <;> rfl
 have hm : ∀ a b, ∃ r, bits_Mul64.f a b = some r := fun a b => ⟨_, rfl⟩
 unfold usc strconv_uscale.f
 simp only [if_pos h63, hb, Option.bind_some]
 obtain ⟨r1, e1⟩ := hm x hi
 obtain ⟨r2, e2⟩ := hm x lo
 rw [e1, e2]
 simp only [Option.bind_some]
 split <;> rfl
theorem uscale_any (x : Int) (g : Nat) (hi lo s : Int) (w0 w : World) (hI : IsS186 w0 w g hi lo s) (hB : Below w0.heap.size w0 w) :
  Calls Tryz.prog 133 #[.int .u64 x, .pointer (some ⟨g, 0, none⟩)] w fun e w' => e = .returned (.int .u64 (usc x hi lo s)) ∧ IsS186 w0 w' g hi lo s ∧ Below w0.heap.size w0 w' :=
 (strconv_uscale.calls x g hi lo s _ _ _ _ w0 w hI hB (usc_f x hi lo s)).mono fun _ _ ⟨a, b, c, _⟩ => ⟨a, b, c⟩
end Go.Proofs.YtjleceekccehoaaGreatDoor.Pr
end

section
set_option linter.unusedVariables false
set_option linter.unusedSimpArgs false
namespace Go.Proofs.YtjleceekccehoaaGreatDoor.Pr
open Go.RowKit Go.Proofs.YtjleceekccehoaaGreatDoorW.PrintWords Go.Proofs.YtjleceekccehoaaGreatDoorW.PrintLast Go.Proofs.YtjleceekccehoaaGreatDoorW.PrintMore

theorem bits_run (b : Nat) (w : World) : (callFunc 96 #[.float .f64 b]).run Tryz.prog w = .ok (.value (.int .u64 b)) w := by
 rw [run_callFunc_extern Tryz.func96 (by kernel_rfl) (by kernel_rfl) (by kernel_rfl) (e := Extern.MathFloatBits.float64bits) (by kernel_rfl)]; rfl
attribute [local go_sem] bits_run


end Go.Proofs.YtjleceekccehoaaGreatDoor.Pr
end

section
set_option linter.unusedVariables false
set_option linter.unusedSimpArgs false
namespace Go.Proofs.YtjleceekccehoaaGreatDoor.Pr
open Go.RowKit Go.Proofs.YtjleceekccehoaaGreatDoorW.PrintWords Go.Proofs.YtjleceekccehoaaGreatDoorW.PrintLast Go.Proofs.YtjleceekccehoaaGreatDoorW.PrintMore
attribute [local go_sem] bits_run

theorem St.below {w0 w w1 : World} {gs : Option Nat} {v : Value} {l : List Int} {ds : List Int} (h : St w0 gs ds w v l) (hb : Below w.heap.size w w1) : St w0 gs ds w1 v l :=
 ⟨Kd.R_below h.row hb, fun g hg => (hb.block g (h.src g hg).lt).trans (h.src g hg), below_step h.bel hb⟩
end Go.Proofs.YtjleceekccehoaaGreatDoor.Pr
end
