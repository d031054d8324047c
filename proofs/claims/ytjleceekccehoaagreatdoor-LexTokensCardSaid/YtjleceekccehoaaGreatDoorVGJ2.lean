/- Texts of this session, cut down to what one claim needs and joined: PrSoundingsref04IsNone, FfFmt, Span, FfPlain. -/
import Derived.Test.YtjleceekccehoaaGreatDoorVGJ0
import Derived.Test.YtjleceekccehoaaGreatDoorVGJ1
import Derived.Test.YtjleceekccehoaaGreatDoorVGAs
import Derived.WalkMore
import Derived.Lib.PathFns
import Derived.Test.YtjleceekccehoaaGreatDoorVGOrd
section
-- Written by a program of this session (wip/hook.py) out of the translation. Not trusted: Lean checks it.
namespace Go.Proofs.YtjleceekccehoaaGreatDoor.Pr
open Go.RowKit Go.Proofs.YtjleceekccehoaaGreatDoorW.PrintWords Go.Proofs.YtjleceekccehoaaGreatDoorW.PrintLast Go.Proofs.YtjleceekccehoaaGreatDoorW.PrintMore
attribute [local go_sem] max2_int min2_int max_two min_two max_three min_three max_four min_four   -- for this text's walks alone
set_option linter.unusedVariables false
set_option linter.unusedSimpArgs false

/-! ### soundingsref04_IsNone: function 25 -/
def soundingsref04_IsNone.f (a0 : Int) : Option (Bool) := if (Int.tmod (IntKind.u64.wrap (Int.tdiv a0 4503599627370496)) 2048) = 2047 then (some ((Int.tmod a0 4503599627370496) != 0)) else (some false)
set_option maxHeartbeats 8000000 in
set_option maxRecDepth 100000 in
theorem soundingsref04_IsNone.calls (a0 : Int) (r : Bool) (w : World) (h : soundingsref04_IsNone.f a0 = some r) :
  Calls Tryz.prog 25 #[.int .u64 a0] w fun e w' => e = .returned (.bool r) ∧ Drawn0 w w' := by
 have H : (if (Int.tmod (IntKind.u64.wrap (Int.tdiv a0 4503599627370496)) 2048) = 2047 then (some ((Int.tmod a0 4503599627370496) != 0)) else (some false)) = some r := h
 clear h
 by_cases c2 : (Int.tmod (IntKind.u64.wrap (Int.tdiv a0 4503599627370496)) 2048) = 2047
 ·rw [if_pos c2] at H
  have c2b0 : ((Int.tmod (IntKind.u64.wrap (Int.tdiv a0 4503599627370496)) 2048) == 2047) = true := beq_iff_eq.mpr c2
  have c2b1 : ((Int.tmod (IntKind.u64.wrap (Int.tdiv a0 4503599627370496)) 2048) != 2047) = false := bne_eq_false_iff_eq.mpr c2
  clear c2
  obtain rfl := Option.some.inj H
  go_enter Tryz.func25, Tryz.ntmps25
  go_wp2
  go_ret
  exact ⟨by first | rfl | (simp; done) | (simp [*]; done), by repeat (first | exact Drawn0.refl _ | apply Drawn0.step)⟩
 ·rw [if_neg c2] at H
  have c2b0 : ((Int.tmod (IntKind.u64.wrap (Int.tdiv a0 4503599627370496)) 2048) == 2047) = false := beq_eq_false_iff_ne.mpr c2
  have c2b1 : ((Int.tmod (IntKind.u64.wrap (Int.tdiv a0 4503599627370496)) 2048) != 2047) = true := bne_iff_ne.mpr c2
  obtain rfl := Option.some.inj H
  go_enter Tryz.func25, Tryz.ntmps25
  go_wp2
  go_ret
  exact ⟨by first | rfl | (simp; done) | (simp [*]; done), by repeat (first | exact Drawn0.refl _ | apply Drawn0.step)⟩

end Go.Proofs.YtjleceekccehoaaGreatDoor.Pr
end

section
set_option linter.unusedVariables false
set_option linter.unusedSimpArgs false
namespace Go.Proofs.YtjleceekccehoaaGreatDoor.Pr
open Go.RowKit Go.Proofs.YtjleceekccehoaaGreatDoorW.PrintWords Go.Proofs.YtjleceekccehoaaGreatDoorW.PrintLast Go.Proofs.YtjleceekccehoaaGreatDoorW.PrintMore
attribute [local go_sem] max2_int min2_int max_two min_two

end Go.Proofs.YtjleceekccehoaaGreatDoor.Pr
end

section
set_option linter.unusedVariables false
set_option linter.unusedSimpArgs false
namespace Go.Proofs.YtjleceekccehoaaGreatDoor.Pr
open Go.RowKit Go.Proofs.YtjleceekccehoaaGreatDoorW.PrintWords Go.Proofs.YtjleceekccehoaaGreatDoorW.PrintLast Go.Proofs.YtjleceekccehoaaGreatDoorW.PrintMore

def bs (l : List UInt8) : ByteArray := ⟨l.toArray⟩
theorem bs_size (l : List UInt8) : (bs l).size = l.length := by simp [bs, ByteArray.size]
theorem bs_drop (l : List UInt8) (k : Nat) : (bs l).extract k (bs l).size = bs (l.drop k) := by rw [Go.Lib.Pa.extract_from]; rfl
theorem bs_drop' (l : List UInt8) (k : Nat) : (bs l).extract k l.length = bs (l.drop k) := by rw [← bs_size l, bs_drop]
theorem bs_at (l : List UInt8) (i : Nat) (h : i < l.length) : bt (bs l) (i : Int) = ((l[i]).toNat : Int) := by
 unfold bt
 rw [dif_pos (by rw [bs_size]; simpa using h)]
 rfl
/-- Digits ahead, a number at most so much (and one digit more). -/
def numR (most : Int) : List UInt8 → Int → Option (Int × List UInt8)
 | [], n => some (n, [])
 | c :: r, n => if (c.toNat : Int) < 48 ∨ (c.toNat : Int) > 57 then some (n, c :: r) else if n > most then none else numR most r (10 * n + (c.toNat - 48))
def numS (most : Int) (l : List UInt8) : Int × List UInt8 × Bool := match numR most l 0 with
 | none => (0, [], false)
 | some (n, r) => (n, r, decide (r.length < l.length) && decide (n ≤ most))

set_option maxHeartbeats 1000000 in
theorem number_any (l : List UInt8) (most : Int) (h0 : 0 ≤ most) (h1 : most ≤ 35184372088832) (hl : l.length ≤ 9223372036854775806) (w : World) :
  Calls Tryz.prog 111 #[.string (bs l), .int .i64 most] w fun e w' => e = .returned (.tuple #[.int .i64 (numS most l).1, .string (bs (numS most l).2.1), .bool (numS most l).2.2]) ∧ Drawn0 w w' := by
 have hsz := bs_size l
 go_enter Tryz.func111, Tryz.ntmps111
 go_wp2
 go_step3
 go_wp2
 go_step3
 go_wp2
 go_loopw [7, 8] (fun v7 v8 w' => ∃ (i : Nat) (n : Int), v8 = .int .i64 i ∧ i ≤ l.length ∧ v7 = .int .i64 n ∧ 0 ≤ n ∧ n ≤ 351843720888330 ∧ Aside0 (numR most (l.drop i) n = numR most l 0) ∧ Aside0 (Drawn0 w w')) (fun _ v8 _ => l.length - (intOf v8).toNat)
 case atStart => exact ⟨0, 0, rfl, by omega, rfl, by omega, by omega, ⟨rfl⟩, ⟨by first | exact Drawn0.refl _ | exact ⟨_, rfl⟩⟩⟩
 case round =>
  obtain ⟨i, n, rfl, him, rfl, hn0, hn1, HR, HD⟩ := hrel
  by_cases hlt : i < l.length
  ·obtain ⟨c, hc⟩ : ∃ c, c = l[i] := ⟨_, rfl⟩
   have hbt : ∀ h : i < (bs l).size, ((bs l)[i]'h).toNat = c.toNat := fun h => by rw [hc]; rfl
   have hc2 : c.toNat < 256 := c.toNat_lt
   have hdr : c :: l.drop (i + 1) = l.drop i := by rw [hc, ← List.drop_eq_getElem_cons hlt]
   have hst := HR.out
   rw [← hdr] at hst
   simp only [numR] at hst
   have HDR := Aside0.mk hdr
   clear hc hdr
   have t1 : IntKind.i64.wrap ((i : Int) + 1) = (i : Int) + 1 := IntWalk.i64_in _ (by omega)
   have t2 : (0 : Int) ≤ (i : Int) := by omega
   have t3 : (i : Int) < (l.length : Int) := by omega
   by_cases c1 : (c.toNat : Int) < 48
   ·rw [if_pos (.inl c1), HDR.out] at hst
    have HST := Aside0.mk hst
    clear hst
    have HN : Aside0 (numS most l = (n, l.drop i, decide (0 < i) && decide (n ≤ most))) := ⟨by
     have e : decide ((l.drop i).length < l.length) = decide (0 < i) := decide_eq_decide.2 (by rw [List.length_drop]; omega)
     unfold numS
     rw [← HST.out]
     dsimp only
     rw [e]⟩
    have t9 : (i : Int) ≤ (l.length : Int) := by omega
    clear HST
    by_cases hi0 : 0 < i
    ·go_wp2
     go_quiet (fail)
     go_wp2
     simp only [Exit.noGoto]
     go_ret3
     exact ⟨by rw [HN.out, bs_drop']; simp [hi0], HD.out.step _⟩
    ·go_wp2
     go_quiet (fail)
     go_wp2
     simp only [Exit.noGoto]
     go_ret3
     exact ⟨by rw [HN.out, bs_drop']; simp [hi0], HD.out.step _⟩
   ·by_cases c2 : (c.toNat : Int) > 57
    ·rw [if_pos (.inr c2), HDR.out] at hst
     have HST := Aside0.mk hst
     clear hst
     have HN : Aside0 (numS most l = (n, l.drop i, decide (0 < i) && decide (n ≤ most))) := ⟨by
      have e : decide ((l.drop i).length < l.length) = decide (0 < i) := decide_eq_decide.2 (by rw [List.length_drop]; omega)
      unfold numS
      rw [← HST.out]
      dsimp only
      rw [e]⟩
     have t9 : (i : Int) ≤ (l.length : Int) := by omega
     clear HST
     by_cases hi0 : 0 < i
     ·go_wp2
      go_quiet (fail)
      go_wp2
      simp only [Exit.noGoto]
      go_ret3
      exact ⟨by rw [HN.out, bs_drop']; simp [hi0], HD.out.step _⟩
     ·go_wp2
      go_quiet (fail)
      go_wp2
      simp only [Exit.noGoto]
      go_ret3
      exact ⟨by rw [HN.out, bs_drop']; simp [hi0], HD.out.step _⟩
    ·rw [if_neg (by omega)] at hst
     by_cases c3 : n > most
     ·rw [if_pos c3] at hst
      have HN : Aside0 (numS most l = (0, [], false)) := ⟨by unfold numS; rw [← hst]⟩
      clear hst
      go_wp2
      go_ret3
      exact ⟨by rw [HN.out]; rfl, HD.out⟩
     ·rw [if_neg c3] at hst
      have HST := Aside0.mk hst
      clear hst
      have t4 : IntKind.i64.wrap (10 * n) = 10 * n := IntWalk.i64_in _ (by omega)
      have t5 : IntKind.u8.wrap ((c.toNat : Int) - 48) = (c.toNat : Int) - 48 := by
       show ((c.toNat : Int) - 48) % 256 = _
       omega
      have t6 : IntKind.i64.wrap (10 * n + ((c.toNat : Int) - 48)) = 10 * n + ((c.toNat : Int) - 48) := IntWalk.i64_in _ (by omega)
      have t7 : IntKind.i64.wrap ((c.toNat : Int) - 48) = (c.toNat : Int) - 48 := IntWalk.i64_in _ (by omega)
      go_wp2
      go_roundw
      case rel => exact ⟨i + 1, _, by go_num, by omega, rfl, by omega, by omega, HST, HD⟩
      case measure => simp [intOf]; omega
  ·have hil : i = l.length := by omega
   have HST : Aside0 (some (n, l.drop i) = numR most l 0) := ⟨by rw [← HR.out, List.drop_eq_nil_of_le (by omega)]; simp [numR]⟩
   clear hil
   have hlt3 : ¬ (i : Int) < (l.length : Int) := by omega
   have HN : Aside0 (numS most l = (n, l.drop i, decide (0 < i) && decide (n ≤ most))) := ⟨by
    have e : decide ((l.drop i).length < l.length) = decide (0 < i) := decide_eq_decide.2 (by rw [List.length_drop]; omega)
    unfold numS
    rw [← HST.out]
    dsimp only
    rw [e]⟩
   have t9 : (i : Int) ≤ (l.length : Int) := by omega
   clear HST
   by_cases hi0 : 0 < i
   ·go_wp2
    go_quiet (fail)
    go_wp2
    simp only [Exit.noGoto]
    go_ret3
    exact ⟨by rw [HN.out, bs_drop']; simp [hi0], HD.out.step _⟩
   ·go_wp2
    go_quiet (fail)
    go_wp2
    simp only [Exit.noGoto]
    go_ret3
    exact ⟨by rw [HN.out, bs_drop']; simp [hi0], HD.out.step _⟩
end Go.Proofs.YtjleceekccehoaaGreatDoor.Pr
end

section
set_option linter.unusedVariables false
set_option linter.unusedSimpArgs false
namespace Go.Proofs.YtjleceekccehoaaGreatDoor.Pr
open Go.RowKit Go.Proofs.YtjleceekccehoaaGreatDoorW.PrintWords Go.Proofs.YtjleceekccehoaaGreatDoorW.PrintLast Go.Proofs.YtjleceekccehoaaGreatDoorW.PrintMore

/-- A variable that closures share: block g holds the text l alone. -/
structure Box (w0 w : World) (g : Nat) (l : List UInt8) : Prop where
 blk : w.heap[g]? = some (.cells #[.string (bs l)] 9 (0, 0))
 ge : w0.heap.size ≤ g
 bel : Below w0.heap.size w0 w
section
variable {w0 w w' : World} {g : Nat} {l : List UInt8}
theorem Box.lt (h : Box w0 w g l) : g < w.heap.size := by
 have h1 := h.blk
 rcases Nat.lt_or_ge g w.heap.size with hlt | hge
 ·exact hlt
 ·rw [Array.getElem?_eq_none hge] at h1; cases h1
theorem Box.below (h : Box w0 w g l) (hb : Below w.heap.size w w') : Box w0 w' g l := ⟨(hb.block g h.lt).trans h.blk, h.ge, below_step h.bel hb⟩
theorem Box.cell (h : Box w0 w g l) : w.cell? ⟨g, 0, none⟩ = some (.string (bs l)) := (blk_cell h.blk 0).trans rfl
theorem Box.froz (h : Box w0 w g l) : w.frozen? ⟨g, 0, none⟩ = false := by have h1 := h.blk; simp [World.frozen?, h1]
theorem Box.set_ (h : Box w0 w g l) (r : List UInt8) : Box w0 (w.setCell ⟨g, 0, none⟩ (.string (bs r))) g r :=
 ⟨by have h1 := h.blk; simp [World.setCell, Array.getElem?_modify, h1], h.ge, below_set h.bel h.ge⟩
theorem Box.new (w : World) (l : List UInt8) (hb : Below w0.heap.size w0 w) : Box w0 (w.alloc (.cells #[.string (bs l)] 9)) w.heap.size l :=
 ⟨heap_alloc_new w _, hb.size, below_alloc hb _⟩
end
def dgs : List UInt8 := [48, 49, 50, 51, 52, 53, 54, 55, 56, 57]
theorem trimDig_any (l : List UInt8) (w : World) : Calls Tryz.prog 62 #[.string (bs l), .string (bs dgs)] w fun e w' => e = .returned (.string (bs (l.dropWhile (dgs.contains ·)))) ∧ Below w.heap.size w w' :=
 Any.strings_TrimLeft_laid Tryz.lays161 (by kernel_rfl) (bs l) (bs dgs) w (by decide) (ascii_of_all (by decide))
set_option maxHeartbeats 1000000 in
set_option maxRecDepth 100000 in
theorem digits_any (l : List UInt8) (hl : l.length ≤ 9223372036854775806) (g : Nat) (w0 w : World) (h : Box w0 w g l) :
  Calls Tryz.prog 61 #[.pointer (some ⟨g, 0, none⟩)] w fun e w' => e = .returned (.int .i64 ((l.length : Int) - (l.dropWhile (dgs.contains ·)).length)) ∧ Box w0 w' g (l.dropWhile (dgs.contains ·)) := by
 obtain ⟨r, hr⟩ : ∃ r, l.dropWhile (dgs.contains ·) = r := ⟨_, rfl⟩
 have hle : r.length ≤ l.length := by rw [← hr]; exact List.Sublist.length_le (List.dropWhile_sublist _)
 have HT : Aside0 (∀ w, Calls Tryz.prog 62 #[.string (bs l), .string (bs dgs)] w fun e w' => e = .returned (.string (bs r)) ∧ Below w.heap.size w w') := ⟨fun w => by rw [← hr]; exact trimDig_any l w⟩
 have HB := Aside0.mk h
 have c0 := h.cell
 have f0 := h.froz
 have s1 := bs_size l
 have s2 := bs_size r
 rw [hr]
 have t1 : wrap64 ((l.length : Int) - (r.length : Int)) = (l.length : Int) - (r.length : Int) := by unfold wrap64; omega
 have T1 := Aside0.mk t1
 have z1 : (r.length : Int) ≤ (l.length : Int) := by omega
 have z2 : (l.length : Int) ≤ 9223372036854775806 := by omega
 clear h hr t1
 go_enter Tryz.func61, Tryz.ntmps61
 go_wp2_with (first | (go_at_call 62; refine (HT.out _).mono ?_; rintro e w1 ⟨rfl, hb1⟩; have HB1 := Aside0.mk (HB.out.below hb1); have c1 := HB1.out.cell; have f1 := HB1.out.froz; clear hb1))
 go_ret
 exact ⟨by first | rfl | (congr 2; exact T1.out) | (simp [T1.out]), HB1.out.set_ r⟩
/-- Is the first byte among some? -/
def among (some : List UInt8) : List UInt8 → Bool
 | [] => false
 | c :: _ => decide (0 ≤ Lib.indexByte some c)
theorem bs_nil_empty : (bs []).toList.isEmpty = true := by rw [Lib.toList_data]; rfl
theorem bs_cons_empty (c : UInt8) (r : List UInt8) : (bs (c :: r)).toList.isEmpty = false := by rw [Lib.toList_data]; rfl
theorem bs_data (l : List UInt8) : (bs l).data.toList = l := by simp [bs]
theorem idx_eq (some : List UInt8) (c : UInt8) (r : List UInt8) (h : 0 < (bs (c :: r)).size) : Lib.indexByte (bs some).data.toList ((((bs (c :: r))[0]'h).toNat : Int).toNat.toUInt8) = Lib.indexByte some c := by
 have e : (bs (c :: r))[0]'h = c := rfl
 rw [e, bs_data]; simp
def sg : List UInt8 → Bool := fun _ => true
set_option maxHeartbeats 1000000 in
set_option maxRecDepth 100000 in
theorem sign_any (some l : List UInt8) (hl : l.length ≤ 9223372036854775806) (g : Nat) (w0 w : World) (h : Box w0 w g l) (b : Bool) (ha : among some l = b) :
  Calls Tryz.prog 63 #[.string (bs some), .pointer (.some ⟨g, 0, none⟩)] w fun e w' => e = .returned (.bool b) ∧ Box w0 w' g (if b = true then l.tail else l) := by
 have HB := Aside0.mk h
 have c0 := h.cell
 have f0 := h.froz
 clear h
 cases l with
 | nil =>
  obtain rfl : false = b := ha
  have k1 := bs_nil_empty
  obtain ⟨s, hs⟩ : ∃ s, bs [] = s := ⟨_, rfl⟩
  rw [hs] at k1 c0
  clear hs hl
  go_enter Tryz.func63, Tryz.ntmps63
  go_wp2_with fail
  go_ret
  exact ⟨rfl, HB.out⟩
 | cons c r =>
  have ha2 : decide (0 ≤ Lib.indexByte some c) = b := ha
  obtain ⟨iv, hiv⟩ : ∃ iv, Lib.indexByte some c = iv := ⟨_, rfl⟩
  rw [hiv] at ha2
  have k1 := bs_cons_empty c r
  have k2 : (bs (c :: r)).size = r.length + 1 := by rw [bs_size]; rfl
  have k3 : (bs (c :: r)).extract 1 (bs (c :: r)).size = bs r := by rw [bs_size, bs_drop']; rfl
  obtain ⟨s, hs⟩ : ∃ s, bs (c :: r) = s := ⟨_, rfl⟩
  have hx : ∀ h : 0 < s.size, Lib.indexByte (bs some).data.toList (((s[0]'h).toNat : Int).toNat.toUInt8) = iv := by subst hs; intro h; rw [idx_eq, hiv]
  have HX := Aside0.mk hx
  rw [hs] at k1 k2 k3 c0
  have k4 : 0 < s.size := by omega
  have k5 : (1 : Int) ≤ (s.size : Int) := by omega
  have k6 : s.size ≤ 9223372036854775807 := by simp at hl; omega
  have HK2 := Aside0.mk k2
  have hl2 : r.length ≤ 9223372036854775806 := by simp at hl; omega
  clear hs ha hl k2 hx hiv
  cases b with
  | false =>
   go_enter Tryz.func63, Tryz.ntmps63
   go_wp2_with (first | (go_at_call 47; refine (Any.strings_IndexByte Tryz.lays137 (bs some) _ _).mono ?_; rw [HX.out]; rintro e w' ⟨rfl, rfl⟩))
   go_ret
   exact ⟨rfl, HB.out⟩
  | true =>
   go_enter Tryz.func63, Tryz.ntmps63
   go_wp2_with (first | (go_at_call 47; refine (Any.strings_IndexByte Tryz.lays137 (bs some) _ _).mono ?_; rw [HX.out]; rintro e w' ⟨rfl, rfl⟩))
   go_ret
   exact ⟨rfl, HB.out.set_ r⟩
end Go.Proofs.YtjleceekccehoaaGreatDoor.Pr
end
