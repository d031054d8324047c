/- Texts of this session, cut down to what one claim needs and joined: FfDec, FfDecQ, PrStrconvPrefixIsLessThan, FfLeft. -/
import Derived.Test.YtjleceekccehoaaGreatDoorVGJ0
import Derived.Test.YtjleceekccehoaaGreatDoorVFfDecP
import Derived.Test.YtjleceekccehoaaGreatDoorVGOrd
import Derived.Deep.LoopGhost
import Derived.Deep.QuietTactic
import Derived.BigQuiet
section
set_option linter.unusedVariables false
set_option linter.unusedSimpArgs false
namespace Go.Proofs.YtjleceekccehoaaGreatDoor.Pr
open Go.RowKit Go.Proofs.YtjleceekccehoaaGreatDoorW.PrintWords Go.Proofs.YtjleceekccehoaaGreatDoorW.PrintLast Go.Proofs.YtjleceekccehoaaGreatDoorW.PrintMore

def decCells (ds : List Int) (nd dp : Int) (ng tr : Bool) : Array Value := ((ds.map (Value.int .u8)) ++ [Value.int .i64 nd, Value.int .i64 dp, Value.bool ng, Value.bool tr]).toArray
/-- A decimal: 800 places, how many are used, the point, the sign, whether more was struck. -/
structure DecB (w0 w : World) (g : Nat) (ds : List Int) (nd dp : Int) (ng tr : Bool) : Prop where
 blk : w.heap[g]? = some (.cells (decCells ds nd dp ng tr) 153 (0, 0))
 len : ds.length = 800
 ge : w0.heap.size ≤ g
 bel : Below w0.heap.size w0 w
section
variable {w0 w w' : World} {g : Nat} {ds : List Int} {nd dp : Int} {ng tr : Bool}
theorem DecB.dig (h : DecB w0 w g ds nd dp ng tr) (i : Nat) (x : Int) (hx : ds[i]? = some x) : w.cell? ⟨g, i, none⟩ = some (.int .u8 x) := by
 have hi : i < ds.length := (List.getElem?_eq_some_iff.1 hx).1
 rw [cell_of_row w g i _ _ (0, 0) h.blk]
 simp only [decCells, List.getElem?_toArray]
 rw [List.getElem?_append_left (by simpa using hi), List.getElem?_map, hx]
 rfl
theorem DecB.nd_ (h : DecB w0 w g ds nd dp ng tr) : w.cell? ⟨g, 800, none⟩ = some (.int .i64 nd) := by
 rw [cell_of_row w g 800 _ _ (0, 0) h.blk]
 simp [decCells, List.getElem?_append_right, h.len]
theorem DecB.dp_ (h : DecB w0 w g ds nd dp ng tr) : w.cell? ⟨g, 801, none⟩ = some (.int .i64 dp) := by
 rw [cell_of_row w g 801 _ _ (0, 0) h.blk]
 simp [decCells, List.getElem?_append_right, h.len]
theorem DecB.ng_ (h : DecB w0 w g ds nd dp ng tr) : w.cell? ⟨g, 802, none⟩ = some (.bool ng) := by
 rw [cell_of_row w g 802 _ _ (0, 0) h.blk]
 simp [decCells, List.getElem?_append_right, h.len]
theorem DecB.tr_ (h : DecB w0 w g ds nd dp ng tr) : w.cell? ⟨g, 803, none⟩ = some (.bool tr) := by
 rw [cell_of_row w g 803 _ _ (0, 0) h.blk]
 simp [decCells, List.getElem?_append_right, h.len]
theorem DecB.froz (h : DecB w0 w g ds nd dp ng tr) (i : Nat) : w.frozen? ⟨g, i, none⟩ = false := by have h1 := h.blk; simp [World.frozen?, h1]
theorem DecB.set_ (h : DecB w0 w g ds nd dp ng tr) (i : Nat) (v : Value) (ds' : List Int) (nd' dp' : Int) (ng' tr' : Bool) (hl : ds'.length = 800) (he : (decCells ds nd dp ng tr).setIfInBounds i v = decCells ds' nd' dp' ng' tr') : DecB w0 (w.setCell ⟨g, i, none⟩ v) g ds' nd' dp' ng' tr' :=
 ⟨by have h1 := h.blk; simp [World.setCell, Array.getElem?_modify, h1, he], hl, h.ge, below_set h.bel h.ge⟩
theorem DecB.setDig (h : DecB w0 w g ds nd dp ng tr) (i : Nat) (hi : i < 800) (x : Int) : DecB w0 (w.setCell ⟨g, i, none⟩ (.int .u8 x)) g (ds.set i x) nd dp ng tr :=
 h.set_ i _ _ _ _ _ _ (by simp [h.len]) (by simp [decCells, List.set_append_left, h.len, hi, List.map_set])
theorem DecB.setNd (h : DecB w0 w g ds nd dp ng tr) (x : Int) : DecB w0 (w.setCell ⟨g, 800, none⟩ (.int .i64 x)) g ds x dp ng tr :=
 h.set_ 800 _ _ _ _ _ _ h.len (by simp [decCells, List.set_append_right, h.len])
theorem DecB.setDp (h : DecB w0 w g ds nd dp ng tr) (x : Int) : DecB w0 (w.setCell ⟨g, 801, none⟩ (.int .i64 x)) g ds nd x ng tr :=
 h.set_ 801 _ _ _ _ _ _ h.len (by simp [decCells, List.set_append_right, h.len])
theorem DecB.setTr (h : DecB w0 w g ds nd dp ng tr) (x : Bool) : DecB w0 (w.setCell ⟨g, 803, none⟩ (.bool x)) g ds nd dp ng x :=
 h.set_ 803 _ _ _ _ _ _ h.len (by simp [decCells, List.set_append_right, h.len])
theorem DecB.below (h : DecB w0 w g ds nd dp ng tr) (hb : Below w.heap.size w w') : DecB w0 w' g ds nd dp ng tr := by
 have hlt : g < w.heap.size := by
  have h1 := h.blk
  rcases Nat.lt_or_ge g w.heap.size with hlt | hge
  ·exact hlt
  ·rw [Array.getElem?_eq_none hge] at h1; cases h1
 exact ⟨(hb.block g hlt).trans h.blk, h.len, h.ge, below_step h.bel hb⟩
end

/-- n without the noughts ('0') that stand at its end. -/
def stripD (ds : List Int) : Nat → Nat
 | 0 => 0
 | n + 1 => if ds.getD n 0 = 48 then stripD ds n else n + 1
theorem stripD_le (ds : List Int) (n : Nat) : stripD ds n ≤ n := by
 induction n with
 | zero => exact Nat.le_refl _
 | succ n ih => unfold stripD; split <;> omega
set_option maxHeartbeats 1000000 in
set_option maxRecDepth 100000 in
theorem trim_any (g : Nat) (ds : List Int) (n : Nat) (dp : Int) (ng tr : Bool) (hn : n ≤ 800) (w0 w : World) (h : DecB w0 w g ds n dp ng tr) :
  Calls Tryz.prog 142 #[.pointer (some ⟨g, 0, none⟩)] w fun e w' => e = .returned (.tuple #[]) ∧ DecB w0 w' g ds (stripD ds n) (if stripD ds n = 0 then 0 else dp) ng tr := by
 have HB0 := Aside0.mk h
 have HEL := Aside0.mk h.len
 obtain ⟨M, hM⟩ : ∃ M, stripD ds n = M := ⟨_, rfl⟩
 obtain ⟨D, hD⟩ : ∃ D, (if stripD ds n = 0 then 0 else dp) = D := ⟨_, rfl⟩
 have HM := Aside0.mk hM
 have HD := Aside0.mk hD
 rw [hD, hM]
 clear h hM hD
 go_enter Tryz.func142, Tryz.ntmps142
 go_wp2
 go_loopg [] n (fun kq w' => kq ≤ n ∧ Aside0 (stripD ds kq = stripD ds n) ∧ Aside0 (DecB w0 w' g ds kq dp ng tr))
 case atStart => exact ⟨Nat.le_refl _, ⟨rfl⟩, HB0⟩
 case round =>
  clear HB0
  obtain ⟨hk, HS, HB⟩ := hrel
  have c0 := HB.out.nd_
  have f0 := HB.out.froz 800
  cases gk with
  | zero =>
   have h0 : stripD ds n = 0 := by rw [← HS.out]; rfl
   have HS2 : Aside0 (M = 0 ∧ D = 0) := ⟨by rw [← HM.out, ← HD.out, h0]; exact ⟨rfl, rfl⟩⟩
   clear h0
   have c1 := HB.out.dp_
   have f1 := HB.out.froz 801
   go_wp2_with fail
   go_quiet (fail)
   go_wp2_with fail
   go_end0
   exact ⟨rfl, by rw [HS2.out.1, HS2.out.2]; exact DecB.setDp (HB.out.below (by repeat (first | exact Below.refl _ _ | apply pw_below_drewN))) 0⟩
  | succ k =>
   obtain ⟨dk, hdk⟩ : ∃ x, ds[k]? = some x := ⟨ds[k]'(by have := HEL.out; omega), List.getElem?_eq_getElem (by have := HEL.out; omega)⟩
   have ck := HB.out.dig k dk hdk
   have HDK : Aside0 (ds.getD k 0 = dk) := ⟨by simp [List.getD, hdk]⟩
   have e1 : (((k + 1 : Nat) : Int) - 1).toNat = k := by omega
   have b1 : (0 : Int) ≤ ((k + 1 : Nat) : Int) - 1 := by omega
   have b2 : ((k + 1 : Nat) : Int) - 1 < 800 := by omega
   have b3 : (0 : Int) < ((k + 1 : Nat) : Int) := by omega
   clear hdk
   by_cases h48 : dk = 48
   ·have t1 : (dk == 48) = true := beq_iff_eq.2 h48
    have HS2 : Aside0 (stripD ds k = stripD ds n) := ⟨by rw [← HS.out, stripD, if_pos (HDK.out.trans h48)]⟩
    clear h48
    go_wp2_with fail
    go_quiet (fail)
    go_wp2_with fail
    go_roundg k
    case measure => omega
    case rel => exact ⟨by omega, HS2, ⟨by have := (HB.out.below (w' := wr.drewN nq) (by repeat (first | exact Below.refl _ _ | apply pw_below_drewN))).setNd (k : Int); first | exact this | simpa using this⟩⟩
   ·have t1 : (dk == 48) = false := beq_eq_false_iff_ne.2 h48
    have h0 : stripD ds n = k + 1 := by rw [← HS.out, stripD, if_neg (by rw [HDK.out]; exact h48)]
    have HS2 : Aside0 (M = k + 1 ∧ D = dp) := ⟨by rw [← HM.out, ← HD.out, h0]; exact ⟨rfl, if_neg (by omega)⟩⟩
    clear h0
    clear h48
    go_wp2_with fail
    go_quiet (fail)
    go_wp2_with fail
    go_end0
    exact ⟨rfl, by rw [HS2.out.1, HS2.out.2]; exact HB.out.below (by repeat (first | exact Below.refl _ _ | apply pw_below_drewN))⟩
end Go.Proofs.YtjleceekccehoaaGreatDoor.Pr
end

section
set_option linter.unusedVariables false
set_option linter.unusedSimpArgs false
namespace Go.Proofs.YtjleceekccehoaaGreatDoor.Dec
open Go

/-- A row of 800 bytes whose first n are digits, the first no nought. -/
structure GoodD (ds : List Int) (n : Nat) : Prop where
 len : ds.length = 800
 le : n ≤ 800
 dig : ∀ i x, i < n → ds[i]? = some x → 48 ≤ x ∧ x ≤ 57
 one : 0 < n → ∀ x, ds[0]? = some x → x ≠ 48
/-- The digits from place j on, n in all. -/
def dl (ds : List Int) (j n : Nat) : List Nat := ((ds.take n).drop j).map fun x => (x - 48).toNat
theorem dl_self (ds : List Int) (n : Nat) (h : n ≤ ds.length) : dl ds n n = [] := by
 unfold dl; rw [List.drop_eq_nil_of_le (by simp; omega)]; rfl
theorem dl_cons (ds : List Int) (j n : Nat) (x : Int) (hj : j < n) (hx : ds[j]? = some x) : dl ds j n = (x - 48).toNat :: dl ds (j + 1) n := by
 unfold dl
 have hl : j < ds.length := (List.getElem?_eq_some_iff.1 hx).1
 have hl2 : j < (ds.take n).length := by simp; omega
 rw [List.drop_eq_getElem_cons hl2]
 have : (ds.take n)[j] = x := by rw [List.getElem_take]; exact (List.getElem?_eq_some_iff.1 hx).2
 rw [this]; rfl
theorem dl_len (ds : List Int) (j n : Nat) (h : n ≤ ds.length) : (dl ds j n).length = n - j := by unfold dl; simp; omega
theorem dl_dig {ds : List Int} {n : Nat} (h : GoodD ds n) (j : Nat) : Dig (dl ds j n) := by
 intro d hd
 unfold dl at hd
 obtain ⟨x, hx, rfl⟩ := List.mem_map.1 hd
 have hx2 := List.mem_of_mem_drop hx
 obtain ⟨i, hi, rfl⟩ := List.mem_iff_getElem.1 hx2
 have hi2 : i < n := by simp at hi; omega
 have hi3 : i < ds.length := by simp at hi; omega
 have := h.dig i _ hi2 (List.getElem?_eq_getElem hi3)
 rw [List.getElem_take]
 omega
theorem dl_hi {ds : List Int} {n : Nat} (h : GoodD ds n) (hn : 1 ≤ n) : 10 ^ ((dl ds 0 n).length - 1) ≤ val (dl ds 0 n) := by
 have hl := h.len
 have hle := h.le
 obtain ⟨x, hx⟩ : ∃ x, ds[0]? = some x := ⟨ds[0]'(by omega), List.getElem?_eq_getElem (by omega)⟩
 have h1 := h.dig 0 x (by omega) hx
 have h2 := h.one (by omega) x hx
 rw [dl_cons ds 0 n x (by omega) hx]
 simp only [val, List.length_cons, Nat.add_sub_cancel]
 have h3 : 1 ≤ (x - 48).toNat := by omega
 have h4 := Nat.mul_le_mul_right (10 ^ (dl ds (0 + 1) n).length) h3
 omega
theorem pow60 (k : Nat) (h : k ≤ 60) : 1 ≤ 2 ^ k ∧ 2 ^ k ≤ 1152921504606846976 := ⟨Nat.pow_pos (by decide), show 2 ^ k ≤ 2 ^ 60 from Nat.pow_le_pow_right (by decide) h⟩
theorem lq_bd (k : Nat) (hk : k ≤ 60) (d : Nat) (hd : d ≤ 9) (l : List Nat) (hl : Dig l) : carry k l + d * 2 ^ k < 18446744073709551616 := by
 have h1 := carry_lt k l hl
 have h2 := Nat.mul_le_mul_right (2 ^ k) hd
 have h3 := (pow60 k hk).2
 omega
/-- The last digit written: it is what is left. -/
theorem left_first (k d : Nat) (l : List Nat) (hc : carry k (d :: l) = 0) (hk : 1 ≤ k) : 2 * d ≤ (carry k l + d * 2 ^ k) - 10 * ((carry k l + d * 2 ^ k) / 10) := by
 rw [carry_cons] at hc
 have e : d * 2 ^ k + carry k l = carry k l + d * 2 ^ k := Nat.add_comm ..
 rw [e] at hc
 rw [hc]
 have h2 : 2 ≤ 2 ^ k := by calc 2 = 2 ^ 1 := rfl
  _ ≤ 2 ^ k := Nat.pow_le_pow_right (by decide) hk
 have h3 := Nat.mul_le_mul_left d h2
 omega
theorem lo_step (n w : Nat) (h : n < 10 ^ (w + 1)) (h1 : 10 ^ w ≤ n) : n / 10 < 10 ^ w ∧ (1 ≤ w → 10 ^ (w - 1) ≤ n / 10) := by
 refine ⟨by rw [Nat.div_lt_iff_lt_mul (by decide), ← Nat.pow_succ]; exact h, fun hw => ?_⟩
 rw [Nat.le_div_iff_mul_le (by decide), ← Nat.pow_succ]; show 10 ^ (w - 1 + 1) ≤ n; rw [show w - 1 + 1 = w from by omega]; exact h1
theorem rs_dvd (k j n : Nat) (hj : j < k) (h : 2 ^ j ∣ n) : 2 ^ (j + 1) ∣ n % 2 ^ k * 10 := by
 have h1 : 2 ^ j ∣ n % 2 ^ k := (Nat.dvd_mod_iff (Nat.pow_dvd_pow 2 (by omega))).2 h
 obtain ⟨q, hq⟩ := h1
 refine ⟨q * 5, ?_⟩
 rw [hq, Nat.pow_succ]
 rw [Nat.mul_assoc, Nat.mul_assoc (2 ^ j), show (10 : Nat) = 2 * 5 from rfl, ← Nat.mul_assoc q, Nat.mul_comm q 2, Nat.mul_assoc 2]
theorem rs_end (k n : Nat) (h : 2 ^ k ∣ n) : n % 2 ^ k * 10 = 0 := by
 rw [Nat.mod_eq_zero_of_dvd h]
end Go.Proofs.YtjleceekccehoaaGreatDoor.Dec
end

section
-- Written by a program of this session (wip/hook.py) out of the translation. Not trusted: Lean checks it.
namespace Go.Proofs.YtjleceekccehoaaGreatDoor.Pr
open Go.RowKit Go.Proofs.YtjleceekccehoaaGreatDoorW.PrintWords Go.Proofs.YtjleceekccehoaaGreatDoorW.PrintLast Go.Proofs.YtjleceekccehoaaGreatDoorW.PrintMore
attribute [local go_sem] max2_int min2_int max_two min_two max_three min_three max_four min_four   -- for this text's walks alone
set_option linter.unusedVariables false
set_option linter.unusedSimpArgs false

/-! ### strconv_prefixIsLessThan: function 170 -/
def strconv_prefixIsLessThan.l0 : Nat → List Int → ByteArray → Int → Option (Bool)
 | 0, _, _, _ => none
 | k + 1, x0, x1, x5 => if x5 < (x1.size : Int) then (if x5 ≥ (x0.length : Int) then (some true) else (if 0 ≤ x5 then (if x5 < (x0.length : Int) then (if (rd x0 x5) = (bt x1 x5) then (strconv_prefixIsLessThan.l0 k x0 x1 (wrap64 (x5 + 1))) else (some (decide ((rd x0 x5) < (bt x1 x5))))) else (none)) else (none))) else (some false)
def strconv_prefixIsLessThan.f (k : Nat) (l0 : List Int) (a1 : ByteArray) : Option (Bool) := strconv_prefixIsLessThan.l0 k l0 a1 0
theorem strconv_prefixIsLessThan.mono_l : ∀ k, (∀ y0 y1 y2, LeO (strconv_prefixIsLessThan.l0 k y0 y1 y2) (strconv_prefixIsLessThan.l0 (k + 1) y0 y1 y2))
 | 0 => fun _ _ _ r h => by simp [strconv_prefixIsLessThan.l0] at h
 | k + 1 => by
  have ih0 := strconv_prefixIsLessThan.mono_l k
  ·intro y0 y1 y2
   unfold strconv_prefixIsLessThan.l0
   repeat' first
   | (with_reducible exact ih0 _ _ _)
   | (with_reducible exact LeO.refl _)
   | (with_reducible exact LeO.none _)
   | (with_reducible refine LeO.ite ?_ ?_)
   | (with_reducible refine LeO.bind ?_ (fun _ => ?_))
   | exact ih0 _ _ _
   | exact LeO.none _
   | refine LeO.ite ?_ ?_
   | refine LeO.bind ?_ (fun _ => ?_)
theorem strconv_prefixIsLessThan.mono : ∀ a0 a1 k, LeO (strconv_prefixIsLessThan.f k a0 a1) (strconv_prefixIsLessThan.f (k + 1) a0 a1) := by
 intro a0 a1 k
 have ih0 := strconv_prefixIsLessThan.mono_l k
 unfold strconv_prefixIsLessThan.f
 repeat' first
   | (with_reducible exact ih0 _ _ _)
   | (with_reducible exact LeO.refl _)
   | (with_reducible exact LeO.none _)
   | (with_reducible refine LeO.ite ?_ ?_)
   | (with_reducible refine LeO.bind ?_ (fun _ => ?_))
   | exact ih0 _ _ _
   | exact LeO.none _
   | refine LeO.ite ?_ ?_
   | refine LeO.bind ?_ (fun _ => ?_)
set_option maxHeartbeats 8000000 in
set_option maxRecDepth 100000 in
theorem strconv_prefixIsLessThan.calls (k : Nat) (A0 : Option Addr) (c0 : Nat) (l0 : List Int) (a1 : ByteArray) (r : Bool) (w : World) (hr0 : Kd.C (Kd.int .u8) w A0 l0.length l0) (hc0 : l0.length ≤ c0) (h : strconv_prefixIsLessThan.f k l0 a1 = some r) :
  Calls Tryz.prog 170 #[.slice A0 l0.length c0, .string a1] w fun e w' => e = .returned (.bool r) ∧ Drawn0 w w' := by
 have HR0 := Aside0.mk hr0
 have HC0 := Aside0.mk hc0
 clear hr0 hc0
 have H : (strconv_prefixIsLessThan.l0 k l0 a1 0) = some r := h
 clear h
 have H' := Aside0.mk H
 clear H
 go_enter Tryz.func170, Tryz.ntmps170
 go_wp2
 repeat (go_quiet (fail); try go_wp2)
 go_loopg [5] k (fun kq v5 w' => ∃ (x5_1 : Int), v5 = .int .i64 x5_1 ∧ Aside0 (strconv_prefixIsLessThan.l0 kq l0 a1 x5_1 = some r) ∧ Aside0 (kq ≤ k) ∧ Drawn0 w w')
 case atStart => exact ⟨(0), (by first | rfl | (simp; done) | (simp [*]; done)), H', ⟨Nat.le_refl _⟩, by repeat (first | exact Drawn0.refl _ | apply Drawn0.step)⟩
 case round =>
  clear H'
  try clear c1
  try clear p2
  obtain ⟨x5_1, rfl, HA, HK1, ⟨m1, rfl⟩⟩ := hrel
  cases gk with
  | zero => exact absurd HA.out (by simp [strconv_prefixIsLessThan.l0])
  | succ k1 =>
   have H := HA.out
   clear HA
   simp only [strconv_prefixIsLessThan.l0] at H
   by_cases c3 : x5_1 < (a1.size : Int)
   ·rw [if_pos c3] at H
    have c3b0 : decide (x5_1 < (a1.size : Int)) = true := decide_eq_true c3
    clear c3
    by_cases c4 : x5_1 ≥ (l0.length : Int)
    ·rw [if_pos c4] at H
     have c4b0 : decide ((l0.length : Int) ≤ x5_1) = true := decide_eq_true c4
     clear c4
     obtain rfl := Option.some.inj H
     go_wp2
     repeat (go_quiet (fail); try go_wp2)
     go_ret
     exact ⟨by first | rfl | (simp; done) | (simp [*]; done), by repeat (first | exact Drawn0.refl _ | apply Drawn0.step)⟩
    ·rw [if_neg c4] at H
     have c4b0 : decide ((l0.length : Int) ≤ x5_1) = false := decide_eq_false c4
     clear c4
     by_cases c5 : 0 ≤ x5_1
     ·rw [if_pos c5] at H
      have c5b0 : decide (0 ≤ x5_1) = true := decide_eq_true c5
      clear c5
      by_cases c6 : x5_1 < (l0.length : Int)
      ·rw [if_pos c6] at H
       have c6b0 : decide (x5_1 < (l0.length : Int)) = true := decide_eq_true c6
       clear c6
       by_cases c8 : (rd l0 x5_1) = (bt a1 x5_1)
       ·rw [if_pos c8] at H
        have c8b0 : ((rd l0 x5_1) == (bt a1 x5_1)) = true := beq_iff_eq.mpr c8
        have c8b1 : ((rd l0 x5_1) != (bt a1 x5_1)) = false := bne_eq_false_iff_eq.mpr c8
        clear c8
        have H' := Aside0.mk H
        clear H
        have p271 : 0 ≤ (x5_1 : Int) := of_decide_eq_true (by first | (with_reducible assumption) | assumption)
        have q271 : x5_1 < (l0.length : Int) := of_decide_eq_true (by first | (with_reducible assumption) | assumption)
        obtain ⟨ad271, e271, hx271_0⟩ := Kd.at_int HR0.out x5_1 p271 q271
        cases e271
        replace p271 := eq_true p271
        replace q271 := eq_true q271
        have p7 : 0 ≤ (x5_1 : Int) := of_decide_eq_true (by first | (with_reducible assumption) | assumption)
        have q7 : x5_1 < (a1.size : Int) := of_decide_eq_true (by first | (with_reducible assumption) | assumption)
        have hx7 := bt_at a1 x5_1
        replace p7 := eq_true p7
        replace q7 := eq_true q7
        go_wp2
        repeat (go_quiet (fail); try go_wp2)
        go_roundg k1
        case measure => have := HK1.out; omega
        case rel => exact ⟨(wrap64 (x5_1 + 1)), (by first | rfl | (simp; done) | (simp [*]; done)), H', ⟨by have := HK1.out; omega⟩, by repeat (first | exact Drawn0.refl _ | apply Drawn0.step)⟩
       ·rw [if_neg c8] at H
        have c8b0 : ((rd l0 x5_1) == (bt a1 x5_1)) = false := beq_eq_false_iff_ne.mpr c8
        have c8b1 : ((rd l0 x5_1) != (bt a1 x5_1)) = true := bne_iff_ne.mpr c8
        obtain rfl := Option.some.inj H
        have p271 : 0 ≤ (x5_1 : Int) := of_decide_eq_true (by first | (with_reducible assumption) | assumption)
        have q271 : x5_1 < (l0.length : Int) := of_decide_eq_true (by first | (with_reducible assumption) | assumption)
        obtain ⟨ad271, e271, hx271_0⟩ := Kd.at_int HR0.out x5_1 p271 q271
        cases e271
        replace p271 := eq_true p271
        replace q271 := eq_true q271
        have p7 : 0 ≤ (x5_1 : Int) := of_decide_eq_true (by first | (with_reducible assumption) | assumption)
        have q7 : x5_1 < (a1.size : Int) := of_decide_eq_true (by first | (with_reducible assumption) | assumption)
        have hx7 := bt_at a1 x5_1
        replace p7 := eq_true p7
        replace q7 := eq_true q7
        have p272 : 0 ≤ (x5_1 : Int) := of_decide_eq_true (by first | (with_reducible assumption) | assumption)
        have q272 : x5_1 < (l0.length : Int) := of_decide_eq_true (by first | (with_reducible assumption) | assumption)
        obtain ⟨ad272, e272, hx272_0⟩ := Kd.at_int HR0.out x5_1 p272 q272
        obtain rfl : ad271 = ad272 := (by injection e272)
        replace p272 := eq_true p272
        replace q272 := eq_true q272
        have p9 : 0 ≤ (x5_1 : Int) := of_decide_eq_true (by first | (with_reducible assumption) | assumption)
        have q9 : x5_1 < (a1.size : Int) := of_decide_eq_true (by first | (with_reducible assumption) | assumption)
        have hx9 := bt_at a1 x5_1
        replace p9 := eq_true p9
        replace q9 := eq_true q9
        go_wp2
        repeat (go_quiet (fail); try go_wp2)
        go_ret
        exact ⟨by first | rfl | (simp; done) | (simp [*]; done), by repeat (first | exact Drawn0.refl _ | apply Drawn0.step)⟩
      ·rw [if_neg c6] at H
       exact absurd H (by simp)
     ·rw [if_neg c5] at H
      exact absurd H (by simp)
   ·rw [if_neg c3] at H
    have c3b0 : decide (x5_1 < (a1.size : Int)) = false := decide_eq_false c3
    clear c3
    obtain rfl := Option.some.inj H
    go_wp2
    repeat (go_quiet (fail); try go_wp2)
    go_ret
    exact ⟨by first | rfl | (simp; done) | (simp [*]; done), by repeat (first | exact Drawn0.refl _ | apply Drawn0.step)⟩

end Go.Proofs.YtjleceekccehoaaGreatDoor.Pr
end

section
set_option linter.unusedVariables false
set_option linter.unusedSimpArgs false
namespace Go.Proofs.YtjleceekccehoaaGreatDoor.Pr
open Go.RowKit Go.Proofs.YtjleceekccehoaaGreatDoor.Dec Go.Proofs.YtjleceekccehoaaGreatDoorW.PrintWords Go.Proofs.YtjleceekccehoaaGreatDoorW.PrintLast Go.Proofs.YtjleceekccehoaaGreatDoorW.PrintMore

def cutB (k : Nat) : ByteArray := ⟨(cheat k).2.toArray⟩
/-- The cheat sheet in memory. -/
structure LaidC (w : World) : Prop where
 tab : ∃ (b o c : Nat), w.cell? ⟨15, 0, none⟩ = some (.slice (some ⟨b, o, none⟩) 61 c) ∧ 61 ≤ c ∧ ∀ k, k < 61 → w.cell? ⟨b, o + k * 2, none⟩ = some (.int .i64 ((cheat k).1 : Nat)) ∧ w.cell? ⟨b, o + k * 2 + 1, none⟩ = some (.string (cutB k))
theorem LaidC.below {w w' : World} (h : LaidC w) (hb : Below w.heap.size w w') : LaidC w' := by
 obtain ⟨b, o, c, h1, h2, h3⟩ := h.tab
 exact ⟨b, o, c, pw_cell_below hb h1, h2, fun k hk => ⟨pw_cell_below hb (h3 k hk).1, pw_cell_below hb (h3 k hk).2⟩⟩
theorem DecB.rowC {w0 w : World} {g : Nat} {ds : List Int} {nd dp : Int} {ng tr : Bool} (h : DecB w0 w g ds nd dp ng tr) (m : Nat) (hm : m ≤ 800) : Kd.C (Kd.int .u8) w (some ⟨g, 0, none⟩) m (ds.take m) := by
 have hl := h.len
 refine ⟨by simp; omega, by omega, fun _ => ⟨_, rfl, fun j p hj => ⟨[.int .u8 p], rfl, rfl, fun q u hq => ?_⟩⟩⟩
 have hj1 : j < m := by
  rcases Nat.lt_or_ge j m with h | h
  ·exact h
  ·rw [List.getElem?_eq_none (by simp; omega)] at hj; cases hj
 rw [List.getElem?_take_of_lt hj1] at hj
 match q with
 | 0 =>
  obtain rfl : Value.int .u8 p = u := by simpa using hq
  have e : (⟨g, 0, none⟩ : Addr).add (j * (Kd.int .u8).sz + 0) = ⟨g, j, none⟩ := by
   show (⟨g, 0, none⟩ : Addr).add (j * 1 + 0) = _
   simp [Addr.add]
   try (intro h; exact h.symm)
  rw [e]
  exact h.dig _ _ hj
 | q + 1 => simp at hq
theorem cut_dig : ∀ k, k < 60 → ∀ c ∈ (cheat (k + 1)).2, 48 ≤ c.toNat ∧ c.toNat ≤ 57 := by
 intro k hk c hc
 have h := cheats_ok k hk
 simp only [cheatOk, Bool.and_eq_true, decide_eq_true_eq, List.all_eq_true] at h
 exact h.2 c hc
theorem pfx_l0 (cs : List UInt8) (hc : ∀ c ∈ cs, 48 ≤ c.toNat ∧ c.toNat ≤ 57) (l : List Int) (hl : ∀ x ∈ l, 48 ≤ x ∧ x ≤ 57) : ∀ (j i : Nat), i + j = cs.length → ∀ (bnd : cs.length < 100000), strconv_prefixIsLessThan.l0 (j + 1) l ⟨cs.toArray⟩ i = some (pfx ((l.drop i).map fun x => (x - 48).toNat) ((cs.drop i).map fun c => c.toNat - 48)) := by
 intro j
 induction j with
 | zero =>
  intro i hi bnd
  have e : cs.drop i = [] := List.drop_eq_nil_of_le (by omega)
  rw [e]
  have hs : (ByteArray.mk cs.toArray).size = cs.length := rfl
  rw [strconv_prefixIsLessThan.l0, if_neg (by rw [hs]; omega)]
  cases (l.drop i).map fun x => (x - 48).toNat <;> rfl
 | succ j ih =>
  intro i hi bnd
  have hs : (ByteArray.mk cs.toArray).size = cs.length := rfl
  have hic : i < cs.length := by omega
  rw [strconv_prefixIsLessThan.l0, if_pos (by rw [hs]; omega)]
  rw [List.drop_eq_getElem_cons hic, List.map_cons]
  by_cases hil : i < l.length
  ·rw [if_neg (by omega), if_pos (by omega), if_pos (by omega)]
   rw [List.drop_eq_getElem_cons hil, List.map_cons]
   have hr : rd l (i : Int) = l[i] := by simp [rd, hil]
   have hb : bt ⟨cs.toArray⟩ (i : Int) = (cs[i].toNat : Int) := by
    simp [bt, hs, hic]
    rfl
   have h1 := hl l[i] (List.getElem_mem hil)
   have h2 := hc cs[i] (List.getElem_mem hic)
   rw [hr, hb]
   have hn := ih (i + 1) (by omega) bnd
   have hw : wrap64 ((i : Int) + 1) = ((i + 1 : Nat) : Int) := by unfold wrap64; omega
   rw [hw, hn]
   unfold pfx
   by_cases he : l[i] = (cs[i].toNat : Int)
   ·rw [if_pos he, if_pos (by omega)]
    cases h3 : (l.drop (i + 1)).map fun x => (x - 48).toNat <;> cases h4 : (cs.drop (i + 1)).map fun c => c.toNat - 48 <;> simp [pfx]
   ·rw [if_neg he, if_neg (by omega)]
    congr 1
    apply decide_eq_decide.2
    omega
  ·rw [if_pos (by omega), List.drop_eq_nil_of_le (by omega)]
   rfl
theorem pfx_any (k : Nat) (h1 : 1 ≤ k) (h2 : k ≤ 60) (g : Nat) (ds : List Int) (n : Nat) (dp : Int) (ng tr : Bool) (hG : GoodD ds n) (w0 w : World) (h : DecB w0 w g ds n dp ng tr) :
  Calls Tryz.prog 170 #[.slice (some ⟨g, 0, none⟩) n 800, .string (cutB k)] w fun e w' => e = .returned (.bool (pfx (dl ds 0 n) (cutD k))) ∧ Drawn0 w w' := by
 have hc := cut_dig (k - 1) (by omega)
 rw [show k - 1 + 1 = k from by omega] at hc
 have hle := hG.le
 have hlen := hG.len
 have hl : ∀ x ∈ ds.take n, 48 ≤ x ∧ x ≤ 57 := by
  intro x hx
  obtain ⟨i, hi, rfl⟩ := List.mem_iff_getElem.1 hx
  have hi2 : i < n := by simp at hi; omega
  rw [List.getElem_take]
  exact hG.dig i _ hi2 (List.getElem?_eq_getElem (by omega))
 have hbnd : (cheat k).2.length < 100000 := by
  have := (cheat_spec k h1 h2).2.1
  simp [cutD] at this
  omega
 have hf := pfx_l0 (cheat k).2 hc (ds.take n) hl (cheat k).2.length 0 (by omega) hbnd
 have hr := h.rowC n hle
 have e : n = (ds.take n).length := by simp; omega
 have := strconv_prefixIsLessThan.calls ((cheat k).2.length + 1) (some ⟨g, 0, none⟩) 800 (ds.take n) (cutB k) (pfx (dl ds 0 n) (cutD k)) w (by rw [← e]; exact hr) (by rw [← e]; exact hle) (by
  unfold strconv_prefixIsLessThan.f
  simpa [dl, cutD, cutB] using hf)
 rw [← e] at this
 exact this

/-- The rows while a shift to the left goes on: below j as they were, from j + e on digits. -/
structure Lf (ds es : List Int) (n e j : Nat) : Prop where
 len : es.length = 800
 low : ∀ i, i < j → es[i]? = ds[i]?
 dig : ∀ i x, j + e ≤ i → i < n + e → es[i]? = some x → 48 ≤ x ∧ x ≤ 57
 fst : j = 0 → e = 0 → ∀ x y, ds[0]? = some x → es[0]? = some y → 2 * (x - 48) ≤ y - 48
theorem Lf.start {ds : List Int} {n e : Nat} (h : GoodD ds n) (hn : 1 ≤ n) : Lf ds ds n e n := ⟨h.len, fun _ _ => rfl, fun i x h1 h2 _ => by omega, fun h1 => by omega⟩
theorem Lf.step {ds es : List Int} {n e j : Nat} (h : Lf ds es n e (j + 1)) (r : Int) (h0 : 0 ≤ r) (h9 : r ≤ 9) (hf : j = 0 → e = 0 → ∀ x, ds[0]? = some x → 2 * (x - 48) ≤ r) : Lf ds (es.set (j + e) (r + 48)) n e j := by
 refine ⟨by simp [h.len], fun i hi => ?_, fun i x h1 h2 hx => ?_, fun h1 h2 x y hx hy => ?_⟩
 ·rw [List.getElem?_set_ne (by omega)]; exact h.low i (by omega)
 ·by_cases hi : i = j + e
  ·subst hi
   rw [List.getElem?_set_self'] at hx
   cases h3 : es[j + e]? with
   | none => rw [h3] at hx; cases hx
   | some z => rw [h3] at hx; simp at hx; omega
  ·rw [List.getElem?_set_ne (by omega)] at hx
   exact h.dig i x (by omega) h2 hx
 ·subst h1 h2
  have := hf rfl rfl x hx
  have hlen := h.len
  rw [show 0 + 0 = 0 from rfl, List.getElem?_set_self (by omega)] at hy
  injection hy with hy
  omega
/-- The same behind all digits: from u on digits; the first one is known when u is 0. -/
structure Lg (ds es : List Int) (n e u : Nat) : Prop where
 len : es.length = 800
 dig : ∀ i x, u ≤ i → i < n + e → es[i]? = some x → 48 ≤ x ∧ x ≤ 57
 fst : u = 0 → e = 0 → ∀ x y, ds[0]? = some x → es[0]? = some y → 2 * (x - 48) ≤ y - 48
 one : u = 0 → 1 ≤ e → ∀ y, es[0]? = some y → y ≠ 48
theorem Lf.lg {ds es : List Int} {n e : Nat} (h : Lf ds es n e 0) : Lg ds es n e e := ⟨h.len, fun i x h1 h2 => h.dig i x (by omega) h2, fun h1 h2 => h.fst rfl h2, fun h1 h2 => by omega⟩
theorem Lg.step {ds es : List Int} {n e u : Nat} (h : Lg ds es n e (u + 1)) (he : u < e) (r : Int) (h0 : 0 ≤ r) (h9 : r ≤ 9) (hf : u = 0 → 1 ≤ r) : Lg ds (es.set u (r + 48)) n e u := by
 refine ⟨by simp [h.len], fun i x h1 h2 hx => ?_, fun h1 h2 x y hx hy => by omega, fun h1 h2 y hy => ?_⟩
 ·by_cases hi : i = u
  ·subst hi
   rw [List.getElem?_set_self'] at hx
   cases h3 : es[i]? with
   | none => rw [h3] at hx; cases hx
   | some z => rw [h3] at hx; simp at hx; omega
  ·rw [List.getElem?_set_ne (by omega)] at hx
   exact h.dig i x (by omega) h2 hx
 ·subst h1
  have := hf rfl
  have hlen := h.len
  rw [List.getElem?_set_self (by omega)] at hy
  injection hy with hy
  omega
theorem stripD_pos (ds : List Int) : ∀ (n : Nat), 1 ≤ n → (∀ x, ds[0]? = some x → x ≠ 48) → 0 < ds.length → 1 ≤ stripD ds n := by
 intro n
 induction n with
 | zero => intro h; omega
 | succ n ih =>
  intro _ hx hl
  unfold stripD
  split
  ·rename_i h
   rcases Nat.eq_zero_or_pos n with h0 | h0
   ·subst h0
    have := hx (ds[0]'hl) (List.getElem?_eq_getElem hl)
    simp [List.getD, List.getElem?_eq_getElem hl] at h
    omega
   ·exact ih h0 hx hl
  ·omega
theorem good_strip {es : List Int} {m : Nat} (hl : es.length = 800) (hm : m ≤ 800) (h1 : 1 ≤ m) (hd : ∀ i x, i < m → es[i]? = some x → 48 ≤ x ∧ x ≤ 57) (ho : ∀ x, es[0]? = some x → x ≠ 48) : GoodD es (stripD es m) ∧ 1 ≤ stripD es m := by
 have h2 := stripD_le es m
 have h3 := stripD_pos es m h1 ho (by omega)
 exact ⟨⟨hl, by omega, fun i x hi => hd i x (by omega), fun _ => ho⟩, h3⟩
/-- What a shift to the left leaves. -/
structure LeftR (w0 w' : World) (g : Nat) (ds : List Int) (dp : Int) (ng : Bool) (es : List Int) (m : Nat) (e : Nat) (tr' : Bool) : Prop where
 dec : DecB w0 w' g es m (dp + e) ng tr'
 good : GoodD es m
 pos : 1 ≤ m
 few : e ≤ 19
 fst : e = 0 → ∀ x y, ds[0]? = some x → es[0]? = some y → 2 * (x - 48) ≤ y - 48
theorem more_le (k : Nat) (h1 : 1 ≤ k) (h2 : k ≤ 60) (l : List Nat) : more k l ≤ 19 := by
 have h : ((List.range 60).all fun k => decide ((cheat (k + 1)).1 ≤ 19)) = true := by decide +kernel
 have := of_decide_eq_true (List.all_eq_true.1 h (k - 1) (List.mem_range.2 (by omega)))
 rw [show k - 1 + 1 = k from by omega] at this
 unfold more; split <;> omega
end Go.Proofs.YtjleceekccehoaaGreatDoor.Pr
end
