/- Texts of this session, cut down to what one claim needs and joined: FfShift, FfRound, FfBits, PrStrconvLower, FfSet0, FfRead0. -/
import Derived.Test.YtjleceekccehoaaGreatDoorVGJ6
import Derived.Scope
import Derived.WalkMore
import Derived.Test.YtjleceekccehoaaGreatDoorVGJ0
import Derived.Test.YtjleceekccehoaaGreatDoorVGJ2
import Derived.Deep.CutRange
section
set_option linter.unusedVariables false
set_option linter.unusedSimpArgs false
namespace Go.Proofs.YtjleceekccehoaaGreatDoor.Pr
open Go.RowKit Go.Proofs.YtjleceekccehoaaGreatDoor.Dec Go.Proofs.YtjleceekccehoaaGreatDoorW.PrintWords Go.Proofs.YtjleceekccehoaaGreatDoorW.PrintLast Go.Proofs.YtjleceekccehoaaGreatDoorW.PrintMore

/-- A good decimal in memory. -/
structure Sh (w0 w' : World) (g : Nat) (ng : Bool) (es : List Int) (m : Nat) (dp : Int) (tr : Bool) : Prop where
 dec : DecB w0 w' g es m dp ng tr
 good : GoodD es m
 pos : 1 ≤ m
theorem LeftR.sh {w0 w' : World} {g : Nat} {ds : List Int} {dp : Int} {ng : Bool} {es : List Int} {m e : Nat} {tr' : Bool} (h : LeftR w0 w' g ds dp ng es m e tr') : Sh w0 w' g ng es m (dp + e) tr' := ⟨h.dec, h.good, h.pos⟩
theorem RightR.sh {w0 w' : World} {g : Nat} {ds : List Int} {dp : Int} {ng : Bool} {es : List Int} {m e : Nat} {tr' : Bool} (h : RightR w0 w' g ds dp ng es m e tr') : Sh w0 w' g ng es m (dp - e) tr' := ⟨h.dec, h.good, h.pos⟩
set_option maxHeartbeats 4000000 in
set_option maxRecDepth 100000 in
theorem shift_pos (k : Nat) (k1 : 1 ≤ k) (k2 : k ≤ 1000000) (g : Nat) (ds : List Int) (n : Nat) (dp : Int) (ng tr : Bool) (d1 : -100000000 ≤ dp) (d2 : dp ≤ 100000000) (w0 w : World) (h : Sh w0 w g ng ds n dp tr) (hC : LaidC w0) :
  Calls Tryz.prog 107 #[.pointer (some ⟨g, 0, none⟩), .int .i64 k] w fun e w' => e = .returned (.tuple #[]) ∧ ∃ es m dp' tr', Sh w0 w' g ng es m dp' tr' ∧ dp ≤ dp' ∧ dp' ≤ dp + 19 * k ∧ (k ≤ 60 → dp' = dp → ∀ x y, ds[0]? = some x → es[0]? = some y → 2 * (x - 48) ≤ y - 48) := by
 have HS := Aside0.mk h
 have HC := Aside0.mk hC
 have cn := h.dec.nd_
 have n1 := h.pos
 have t1 : ((n : Int) == 0) = false := by rw [beq_eq_false_iff_ne]; omega
 have z1 : decide (0 < k) = true := by simp; omega
 have K1 := Aside0.mk k1
 clear h hC n1 k1
 go_enter Tryz.func107, Tryz.ntmps107
 go_wp2_with fail
 go_loopg [1] k (fun q v1 wr => ∃ j : Nat, v1 = .int .i64 (j : Int) ∧ 1 ≤ j ∧ j ≤ k ∧ q = j ∧ Aside0 (∃ es m dp' tr', Sh w0 wr g ng es m dp' tr' ∧ dp ≤ dp' ∧ dp' ≤ dp + 19 * ((k : Int) - j) ∧ (k ≤ 60 → j = k ∧ es = ds ∧ dp' = dp)))
 case atStart => exact ⟨k, rfl, K1.out, Nat.le_refl _, rfl, ⟨ds, n, dp, tr, HS.out, Int.le_refl _, by omega, fun _ => ⟨rfl, rfl, rfl⟩⟩⟩
 case round =>
  clear HS cn t1 z1
  obtain ⟨j, h1, hj1, hj2, hq, HH⟩ := hrel
  obtain ⟨es, m, dp', tr', hS, hd1, hd2, hfst⟩ := HH.out
  have HS := Aside0.mk hS
  have HF := Aside0.mk hfst
  have HD := Aside0.mk (And.intro hd1 hd2)
  have HQ := Aside0.mk hq
  clear HH hS hfst hd1 hd2 hq
  subst h1
  by_cases hj : j ≤ 60
  ·have s1 : ((j : Int) > 60) = False := by simp; omega
   have s2 : (0 : Int) ≤ (j : Int) := by omega
   have s3 : (j : Int) ≤ 60 := by omega
   go_wp2_with fail
   refine (left_any j hj1 hj g es m dp' ng tr' HS.out.good HS.out.pos (by have := HD.out; omega) (by have := HD.out; omega) w0 _ HS.out.dec HC.out).mono ?_
   rintro e_ w'' ⟨rfl, es2, m2, e2, tr2, hR⟩
   go_wp2_with fail
   go_end0
   refine ⟨rfl, es2, m2, _, tr2, hR.sh, ?_, ?_, ?_⟩
   ·have := HD.out; omega
   ·have := HD.out; have := hR.few; omega
   ·intro hk he
    obtain ⟨h5, h6, h7⟩ := HF.out hk
    subst h6
    exact hR.fst (by omega)
  ·have s1 : (j : Int) > 60 := by omega
   go_wp2_with fail
   refine (left_any 60 (by omega) (by omega) g es m dp' ng tr' HS.out.good HS.out.pos (by have := HD.out; omega) (by have := HD.out; omega) w0 _ HS.out.dec HC.out).mono ?_
   rintro e_ w'' ⟨rfl, es2, m2, e2, tr2, hR⟩
   have s4 : (j : Int) - 60 = ((j - 60 : Nat) : Int) := by omega
   have HR := Aside0.mk hR
   clear hR
   go_wp2_with fail
   go_roundg (j - 60)
   case measure => have := HQ.out; omega
   case rel => exact ⟨j - 60, by go_num, by omega, by omega, rfl, ⟨es2, m2, _, tr2, HR.out.sh, by have := HD.out; omega, by have := HD.out; have := HR.out.few; omega, fun h => by omega⟩⟩
set_option maxHeartbeats 4000000 in
set_option maxRecDepth 100000 in
theorem shift_neg (k : Nat) (k1 : 1 ≤ k) (k2 : k ≤ 1000000) (g : Nat) (ds : List Int) (n : Nat) (dp : Int) (ng tr : Bool) (d1 : -100000000 ≤ dp) (d2 : dp ≤ 100000000) (w0 w : World) (h : Sh w0 w g ng ds n dp tr) :
  Calls Tryz.prog 107 #[.pointer (some ⟨g, 0, none⟩), .int .i64 (-(k : Int))] w fun e w' => e = .returned (.tuple #[]) ∧ ∃ es m dp' tr', Sh w0 w' g ng es m dp' tr' ∧ dp' ≤ dp ∧ dp - 19 * k ≤ dp' ∧ (k ≤ 60 → dp' = dp → ∀ x y, ds[0]? = some x → es[0]? = some y → y < x) := by
 have HS := Aside0.mk h
 have cn := h.dec.nd_
 have n1 := h.pos
 have t1 : ((n : Int) == 0) = false := by rw [beq_eq_false_iff_ne]; omega
 have z1 : decide ((k : Int) < 0) = false := by simp
 have z2 : decide (0 < k) = true := by simp; omega
 have K1 := Aside0.mk k1
 clear h n1 k1
 go_enter Tryz.func107, Tryz.ntmps107
 go_wp2_with fail
 go_loopg [1] k (fun q v1 wr => ∃ j : Nat, v1 = .int .i64 (-(j : Int)) ∧ 1 ≤ j ∧ j ≤ k ∧ q = j ∧ Aside0 (∃ es m dp' tr', Sh w0 wr g ng es m dp' tr' ∧ dp' ≤ dp ∧ dp - 19 * ((k : Int) - j) ≤ dp' ∧ (k ≤ 60 → j = k ∧ es = ds ∧ dp' = dp)))
 case atStart => exact ⟨k, rfl, K1.out, Nat.le_refl _, rfl, ⟨ds, n, dp, tr, HS.out, Int.le_refl _, by omega, fun _ => ⟨rfl, rfl, rfl⟩⟩⟩
 case round =>
  clear HS cn t1 z1 z2
  obtain ⟨j, h1, hj1, hj2, hq, HH⟩ := hrel
  obtain ⟨es, m, dp', tr', hS, hd1, hd2, hfst⟩ := HH.out
  have HS := Aside0.mk hS
  have HF := Aside0.mk hfst
  have HD := Aside0.mk (And.intro hd1 hd2)
  have HQ := Aside0.mk hq
  clear HH hS hfst hd1 hd2 hq
  subst h1
  by_cases hj : j ≤ 60
  ·have s1 : ((-(j : Int)) < -60) = False := by simp; omega
   have s2 : (0 : Int) ≤ (j : Int) := by omega
   have s3 : (j : Int) ≤ 60 := by omega
   go_wp2_with fail
   refine (right_any j hj1 hj g es m dp' ng tr' HS.out.good HS.out.pos (by have := HD.out; omega) (by have := HD.out; omega) w0 _ HS.out.dec).mono ?_
   rintro e_ w'' ⟨rfl, es2, m2, e2, tr2, hR⟩
   go_wp2_with fail
   go_end0
   refine ⟨rfl, es2, m2, _, tr2, hR.sh, ?_, ?_, ?_⟩
   ·have := HD.out; omega
   ·have := HD.out; have := hR.few; omega
   ·intro hk he
    obtain ⟨h5, h6, h7⟩ := HF.out hk
    subst h6
    exact hR.fst (by omega)
  ·have s1 : (-(j : Int)) < -60 := by omega
   go_wp2_with fail
   refine (right_any 60 (by omega) (by omega) g es m dp' ng tr' HS.out.good HS.out.pos (by have := HD.out; omega) (by have := HD.out; omega) w0 _ HS.out.dec).mono ?_
   rintro e_ w'' ⟨rfl, es2, m2, e2, tr2, hR⟩
   have s4 : (-(j : Int)) + 60 = -((j - 60 : Nat) : Int) := by omega
   have HR := Aside0.mk hR
   clear hR
   go_wp2_with fail
   go_roundg (j - 60)
   case measure => have := HQ.out; omega
   case rel => exact ⟨j - 60, by go_num, by omega, by omega, rfl, ⟨es2, m2, _, tr2, HR.out.sh, by have := HD.out; omega, by have := HD.out; have := HR.out.few; omega, fun h => by omega⟩⟩
end Go.Proofs.YtjleceekccehoaaGreatDoor.Pr
end

section
set_option linter.unusedVariables false
set_option linter.unusedSimpArgs false
namespace Go.Proofs.YtjleceekccehoaaGreatDoor.Pr
open Go.RowKit Go.Proofs.YtjleceekccehoaaGreatDoor.Dec Go.Proofs.YtjleceekccehoaaGreatDoorW.PrintWords Go.Proofs.YtjleceekccehoaaGreatDoorW.PrintLast Go.Proofs.YtjleceekccehoaaGreatDoorW.PrintMore

/-- It returns a truth value; a number. -/
def IsB (e : Ending) : Prop := ∃ b, e = .returned (.bool b)
def IsN (e : Ending) : Prop := ∃ N, e = .returned (.int .u64 N)
set_option maxHeartbeats 4000000 in
set_option maxRecDepth 100000 in
theorem roundUp_any (nd : Int) (g : Nat) (ds : List Int) (n : Nat) (dp : Int) (ng tr : Bool) (d1 : -1000000000 ≤ nd) (d2 : nd ≤ 1000000000) (w0 w : World) (h : Sh w0 w g ng ds n dp tr) :
  Calls Tryz.prog 145 #[.pointer (some ⟨g, 0, none⟩), .int .i64 nd] w fun e w' => IsB e ∧ Sh w0 w' g ng ds n dp tr := by
 have HS := Aside0.mk h
 have cn := h.dec.nd_
 have ct := h.dec.tr_
 have n8 := h.good.le
 have HL := Aside0.mk h.good.len
 clear h d1 d2
 by_cases h0 : nd < 0
 ·go_enter Tryz.func145, Tryz.ntmps145
  go_wp2_with fail
  go_ret
  exact ⟨⟨_, rfl⟩, HS.out⟩
 ·by_cases hn : nd ≥ (n : Int)
  ·go_enter Tryz.func145, Tryz.ntmps145
   go_wp2_with fail
   go_ret
   exact ⟨⟨_, rfl⟩, HS.out⟩
  ·obtain ⟨j, rfl⟩ : ∃ j : Nat, nd = j := ⟨nd.toNat, by omega⟩
   have s1 : ((j : Int) < 0) = False := by simp
   have s2 : ((j : Int) ≥ (n : Int)) = False := by simp; omega
   have q3 : (j : Int) < 800 := by omega
   have q4 : (0 : Int) ≤ (j : Int) := by omega
   obtain ⟨x, hx⟩ : ∃ x, ds[j]? = some x := ⟨ds[j]'(by have := HL.out; omega), List.getElem?_eq_getElem (by have := HL.out; omega)⟩
   have cx := HS.out.dec.dig j x hx
   have hxd := HS.out.good.dig j x (by omega) hx
   have hjn : j < n := by omega
   have HJN := Aside0.mk hjn
   clear hx h0 hn hjn
   by_cases h5 : x = 53
   ·subst h5
    cases j with
    | zero =>
     have s3 : ((((0 : Nat) : Int)) > 0) = False := by simp
     cases tr
     all_goals
      go_enter Tryz.func145, Tryz.ntmps145
      go_wp2_with fail
      all_goals
       go_ret
       exact ⟨⟨_, rfl⟩, HS.out⟩
    | succ i =>
     obtain ⟨y, hy⟩ : ∃ x, ds[i]? = some x := ⟨ds[i]'(by have := HL.out; omega), List.getElem?_eq_getElem (by have := HL.out; omega)⟩
     have cy := HS.out.dec.dig i y hy
     have hyd := HS.out.good.dig i y (by have := HJN.out; omega) hy
     have s3 : ((((i + 1 : Nat) : Int)) > 0) := by omega
     have q5 : (i : Int) < 800 := by omega
     have q6 : (0 : Int) ≤ (i : Int) := by omega
     clear hy
     cases tr
     all_goals
      go_enter Tryz.func145, Tryz.ntmps145
      go_wp2_with fail
      all_goals
       go_ret
       exact ⟨⟨_, rfl⟩, HS.out⟩
   ·have t5 : (x == 53) = false := beq_eq_false_iff_ne.2 h5
    clear h5
    go_enter Tryz.func145, Tryz.ntmps145
    go_wp2_with fail
    go_ret
    exact ⟨⟨_, rfl⟩, HS.out⟩
set_option maxHeartbeats 4000000 in
set_option maxRecDepth 100000 in
theorem roundedInt_any (g : Nat) (ds : List Int) (n : Nat) (dp : Int) (ng tr : Bool) (d1 : -1000000000 ≤ dp) (d2 : dp ≤ 1000000000) (w0 w : World) (h : Sh w0 w g ng ds n dp tr) :
  Calls Tryz.prog 181 #[.pointer (some ⟨g, 0, none⟩)] w fun e w' => IsN e ∧ Sh w0 w' g ng ds n dp tr := by
 have HS := Aside0.mk h
 have cd := h.dec.dp_
 have n8 := h.good.le
 have HL := Aside0.mk h.good.len
 clear h
 by_cases h20 : dp > 20
 ·go_enter Tryz.func181, Tryz.ntmps181
  go_wp2_with fail
  go_ret
  exact ⟨⟨_, rfl⟩, HS.out⟩
 ·have s1 : (dp > 20) = False := by simp; omega
  go_enter Tryz.func181, Tryz.ntmps181
  go_wp2_with fail
  go_loopg [3, 4] 30 (fun q v3 v4 wr => ∃ (i : Nat) (N : Int), v3 = .int .i64 (i : Int) ∧ v4 = .int .u64 N ∧ i + q = 30 ∧ i ≤ 20 ∧ Aside0 (Sh w0 wr g ng ds n dp tr))
  case atStart => exact ⟨0, 0, rfl, rfl, rfl, by omega, HS⟩
  case round =>
   clear HS cd
   obtain ⟨i, N, h3, h4, hq, hi, HS⟩ := hrel
   have cd := HS.out.dec.dp_
   have cn := HS.out.dec.nd_
   have HQ := Aside0.mk hq
   clear hq
   subst h3 h4
   by_cases hd : (i : Int) < dp
   ·by_cases hn : i < n
    ·obtain ⟨x, hx⟩ : ∃ x, ds[i]? = some x := ⟨ds[i]'(by have := HL.out; omega), List.getElem?_eq_getElem (by have := HL.out; omega)⟩
     have cx := HS.out.dec.dig i x hx
     have hxd := HS.out.good.dig i x hn hx
     have s2 : (i : Int) < (n : Int) := by omega
     have q5 : (i : Int) < 800 := by omega
     have q6 : (0 : Int) ≤ (i : Int) := by omega
     clear hx
     go_wp2_with fail
     go_roundg (gk - 1)
     case measure => have := HQ.out; omega
     case rel => exact ⟨i + 1, _, by go_num, rfl, by have := HQ.out; omega, by omega, HS⟩
    ·have s2 : ((i : Int) < (n : Int)) = False := by simp; omega
     have HD := Aside0.mk hd
     clear hd hn
     have s3 : (i : Int) < dp := HD.out
     go_wp2_with fail
     go_loopg [3, 4] gk (fun q v3 v4 wr => ∃ (i : Nat) (N : Int), v3 = .int .i64 (i : Int) ∧ v4 = .int .u64 N ∧ i + q = 30 ∧ i ≤ 20 ∧ Aside0 (Sh w0 wr g ng ds n dp tr))
     case atStart => exact ⟨i, N, rfl, rfl, HQ.out, hi, HS⟩
     case round =>
      clear HS cd cn HQ s2
      obtain ⟨i', N', h3, h4, hq, hi', HS⟩ := hrel
      have cd := HS.out.dec.dp_
      have HQ := Aside0.mk hq
      clear hq
      subst h3 h4
      by_cases hd : (i' : Int) < dp
      ·go_wp2_with fail
       go_roundg (gk - 1)
       case measure => have := HQ.out; omega
       case rel => exact ⟨i' + 1, _, by go_num, rfl, by have := HQ.out; omega, by omega, HS⟩
      ·have s2 : ((i' : Int) < dp) = False := by simp; omega
       go_wp2_with fail
       refine (roundUp_any dp g ds n dp ng tr d1 d2 w0 _ HS.out).mono ?_
       rintro e_ w'' ⟨⟨b, rfl⟩, hs⟩
       have HS2 := Aside0.mk hs
       clear hs HS
       cases b
       all_goals
        go_wp2_with fail
        go_ret
        exact ⟨⟨_, rfl⟩, HS2.out⟩
   ·have s2 : ((i : Int) < dp) = False := by simp; omega
    go_wp2_with fail
    go_loopg [3, 4] gk (fun q v3 v4 wr => ∃ (i : Nat) (N : Int), v3 = .int .i64 (i : Int) ∧ v4 = .int .u64 N ∧ i + q = 30 ∧ i ≤ 20 ∧ Aside0 (Sh w0 wr g ng ds n dp tr))
    case atStart => exact ⟨i, N, rfl, rfl, HQ.out, hi, HS⟩
    case round =>
     clear HS cd cn HQ s2
     obtain ⟨i', N', h3, h4, hq, hi', HS⟩ := hrel
     have cd := HS.out.dec.dp_
     have HQ := Aside0.mk hq
     clear hq
     subst h3 h4
     by_cases hd : (i' : Int) < dp
     ·go_wp2_with fail
      go_roundg (gk - 1)
      case measure => have := HQ.out; omega
      case rel => exact ⟨i' + 1, _, by go_num, rfl, by have := HQ.out; omega, by omega, HS⟩
     ·have s2 : ((i' : Int) < dp) = False := by simp; omega
      go_wp2_with fail
      refine (roundUp_any dp g ds n dp ng tr d1 d2 w0 _ HS.out).mono ?_
      rintro e_ w'' ⟨⟨b, rfl⟩, hs⟩
      have HS2 := Aside0.mk hs
      clear hs HS
      cases b
      all_goals
       go_wp2_with fail
       go_ret
       exact ⟨⟨_, rfl⟩, HS2.out⟩
end Go.Proofs.YtjleceekccehoaaGreatDoor.Pr
end

section
set_option linter.unusedVariables false
set_option linter.unusedSimpArgs false
namespace Go.Proofs.YtjleceekccehoaaGreatDoor.Pr
open Go.RowKit Go.Proofs.YtjleceekccehoaaGreatDoor.Dec Go.Proofs.YtjleceekccehoaaGreatDoorW.PrintWords Go.Proofs.YtjleceekccehoaaGreatDoorW.PrintLast Go.Proofs.YtjleceekccehoaaGreatDoorW.PrintMore

/-- As Q; by a goto to a label: J of the label. -/
def jumps (J : Nat → Act → World → Prop) (Q : Exit → Act → World → Prop) : Exit → Act → World → Prop
 | .goto l, a, w => J l a w
 | e, a, w => Q e a w
section
variable {J : Nat → Act → World → Prop} {Q : Exit → Act → World → Prop} {a : Act} {w : World}
theorem jumps_goto (l : Nat) : jumps J Q (.goto l) a w = J l a w := rfl
theorem jumps_normal : jumps J Q .normal a w = Q .normal a w := rfl
theorem jumps_exit (id : Nat) : jumps J Q (.exit id) a w = Q (.exit id) a w := rfl
theorem jumps_ret : jumps J Q .ret a w = Q .ret a w := rfl
/-- A scope whose gotos go to labels of ever lower rank. -/
theorem wp_scope_fwd {P : Program} {c : Code} (J : Nat → Act → World → Prop) (rank : Nat → Nat)
  (first : c.wp P (jumps (fun l a w => (∃ rest, findLabel c l = some rest) ∧ J l a w) Q) a w)
  (pass : ∀ l rest, findLabel c l = some rest → ∀ a w, J l a w → rest.wp P (jumps (fun l' a' w' => (∃ rest', findLabel c l' = some rest') ∧ rank l' < rank l ∧ J l' a' w') Q) a w) : (Code.scope c).wp P Q a w := by
 intro b k cs
 have hg : ∀ l rest, findLabel c l = some rest → gotoIn l (.inScope c :: k) = some (.code rest :: .inScope c :: k) := fun l rest hf => by simp [gotoIn, hf]
 have key : ∀ n l rest a w, rank l = n → findLabel c l = some rest → J l a w → ∃ e a' w', Q e a' w' ∧ Arrives P (lone (b.at a (.code rest :: .inScope c :: k)) cs w) b k cs e a' w' := by
  intro n
  induction n using Nat.strongRecOn with
  | _ n ih =>
   intro l rest a w hn hf hJ
   obtain ⟨e, a₁, w₁, hq, harr⟩ := pass l rest hf a w hJ b (.inScope c :: k) cs
   cases e with
   | normal => exact ⟨.normal, a₁, w₁, hq, Steps.trans harr (.one step_inScope)⟩
   | exit id => exact ⟨.exit id, a₁, w₁, hq, fun k' hk => harr k' (by simp [exitTo, hk])⟩
   | goto l' =>
    obtain ⟨⟨rest', hf'⟩, hlt, hJ'⟩ := hq
    obtain ⟨e₂, a₂, w₂, hq₂, harr₂⟩ := ih _ (by omega) l' rest' a₁ w₁ rfl hf' hJ'
    exact ⟨e₂, a₂, w₂, hq₂, .of_steps (harr _ (hg l' rest' hf')) harr₂⟩
   | ret => exact ⟨_, a₁, w₁, hq, harr⟩
   | panic ch => exact ⟨_, a₁, w₁, hq, harr⟩
   | outgrown => exact ⟨_, a₁, w₁, hq, harr⟩
 obtain ⟨e, a₁, w₁, hq, harr⟩ := first b (.inScope c :: k) cs
 cases e with
 | normal => exact ⟨.normal, a₁, w₁, hq, .head step_scope (Steps.trans harr (.one step_inScope))⟩
 | exit id => exact ⟨.exit id, a₁, w₁, hq, fun k' hk => .head step_scope (harr k' (by simp [exitTo, hk]))⟩
 | goto l' =>
  obtain ⟨⟨rest', hf'⟩, hJ'⟩ := hq
  obtain ⟨e₂, a₂, w₂, hq₂, harr₂⟩ := key _ l' rest' a₁ w₁ rfl hf' hJ'
  exact ⟨e₂, a₂, w₂, hq₂, .of_steps (.head step_scope (harr _ (hg l' rest' hf'))) harr₂⟩
 | ret => exact ⟨_, a₁, w₁, hq, .of_steps (.one step_scope) harr⟩
 | panic ch => exact ⟨_, a₁, w₁, hq, .of_steps (.one step_scope) harr⟩
 | outgrown => exact ⟨_, a₁, w₁, hq, .of_steps (.one step_scope) harr⟩
end
/-- strconv's powtab; float64info. -/
structure LaidQ (w : World) : Prop where
 tab : ∃ (b o c : Nat), w.cell? ⟨17, 0, none⟩ = some (.slice (some ⟨b, o, none⟩) 9 c) ∧ 9 ≤ c ∧ ∀ i, i < 9 → ∃ v : Nat, w.cell? ⟨b, o + i, none⟩ = some (.int .i64 v) ∧ 1 ≤ v ∧ v ≤ 27
 mant : w.cell? ⟨13, 0, none⟩ = some (.int .u64 52)
 exps : w.cell? ⟨13, 1, none⟩ = some (.int .u64 11)
 bias : w.cell? ⟨13, 2, none⟩ = some (.int .i64 (-1023))
theorem LaidQ.below {w w' : World} (h : LaidQ w) (hb : Below w.heap.size w w') : LaidQ w' := by
 obtain ⟨b, o, c, h1, h2, h3⟩ := h.tab
 exact ⟨⟨b, o, c, pw_cell_below hb h1, h2, fun i hi => by obtain ⟨v, a, b⟩ := h3 i hi; exact ⟨v, pw_cell_below hb a, b⟩⟩, pw_cell_below hb h.mant, pw_cell_below hb h.exps, pw_cell_below hb h.bias⟩
/-- A decimal in memory, whatever it holds. -/
def DecAny (w0 w : World) (g : Nat) : Prop := ∃ es nd dp ng tr, DecB w0 w g es nd dp ng tr
set_option maxRecDepth 100000 in
/-- The frame at floatBits' labels. -/
def FbJ (w0 : World) (g : Nat) (l : Nat) (a : Act) (w : World) : Prop := ∃ (b : Bool) (x N : Int) (u : Nat → Value), a = ⟨#[.pointer (some ⟨g, 0, none⟩), .pointer (some ⟨13, 0, none⟩), u 2, u 3, u 4, .bool b, .int .i64 x, .int .u64 N, u 8, u 9, u 10, u 11, u 12, u 13, u 14, u 15, u 16, u 17, u 18, u 19, u 20, u 21, u 22, u 23, u 24, u 25, u 26, u 27, u 28, u 29, u 30, u 31, u 32, u 33, u 34, u 35, u 36, u 37, u 38, u 39, u 40, u 41, u 42, u 43, u 44, u 45, u 46, u 47, u 48, u 49, u 50, u 51, u 52, u 53, u 54, u 55, u 56, u 57, u 58, u 59, u 60, u 61, u 62, u 63, u 64, u 65, u 66, u 67, u 68, u 69, u 70, u 71, u 72, u 73, u 74, u 75, u 76, u 77, u 78, u 79, u 80, u 81, u 82, u 83, u 84, u 85, u 86, u 87, u 88, u 89, u 90, u 91, u 92, u 93, u 94, u 95, u 96, u 97, u 98, u 99, u 100, u 101, u 102, u 103, u 104, u 105, u 106, u 107, u 108, u 109, u 110, u 111, u 112, u 113, u 114, u 115, u 116, u 117, u 118, u 119, u 120, u 121, u 122, u 123, u 124, u 125, u 126, u 127, u 128, u 129, u 130, u 131, u 132, u 133, u 134, u 135, u 136, u 137, u 138, u 139, u 140, u 141, u 142, u 143, u 144, u 145, u 146, u 147, u 148, u 149, u 150, u 151, u 152, u 153, u 154, u 155, u 156, u 157, u 158, u 159, u 160, u 161, u 162, u 163, u 164, u 165, u 166, u 167, u 168, u 169, u 170, u 171, u 172, u 173, u 174, u 175, u 176, u 177, u 178, u 179, u 180, u 181, u 182, u 183, u 184, u 185, u 186, u 187, u 188, u 189, u 190, u 191, u 192, u 193, u 194, u 195, u 196, u 197, u 198, u 199, u 200, u 201, u 202, u 203, u 204, u 205, u 206, u 207, u 208, u 209, u 210, u 211, u 212, u 213, u 214, u 215, u 216, u 217, u 218, u 219, u 220, u 221, u 222, u 223, u 224, u 225, u 226, u 227, u 228, u 229, u 230, u 231, u 232, u 233, u 234, u 235, u 236, u 237, u 238, u 239, u 240, u 241, u 242], []⟩ ∧ l ≤ 1 ∧ Aside0 (DecAny w0 w g)
theorem Sh.below {w0 w w' : World} {g : Nat} {ng : Bool} {es : List Int} {m : Nat} {dp : Int} {tr : Bool} (h : Sh w0 w g ng es m dp tr) (hb : Below w.heap.size w w') : Sh w0 w' g ng es m dp tr := ⟨h.dec.below hb, h.good, h.pos⟩
theorem shift_neg' (k : Nat) (v : Int) (hv : v = -(k : Int)) (k1 : 1 ≤ k) (k2 : k ≤ 1000000) (g : Nat) (ds : List Int) (n : Nat) (dp : Int) (ng tr : Bool) (d1 : -100000000 ≤ dp) (d2 : dp ≤ 100000000) (w0 w : World) (h : Sh w0 w g ng ds n dp tr) :
  Calls Tryz.prog 107 #[.pointer (some ⟨g, 0, none⟩), .int .i64 v] w fun e w' => e = .returned (.tuple #[]) ∧ ∃ es m dp' tr', Sh w0 w' g ng es m dp' tr' ∧ dp' ≤ dp ∧ dp - 19 * k ≤ dp' ∧ (k ≤ 60 → dp' = dp → ∀ x y, ds[0]? = some x → es[0]? = some y → y < x) := by
 subst hv; exact shift_neg k k1 k2 g ds n dp ng tr d1 d2 w0 w h
theorem shift_pos' (k : Nat) (v : Int) (hv : v = (k : Int)) (k1 : 1 ≤ k) (k2 : k ≤ 1000000) (g : Nat) (ds : List Int) (n : Nat) (dp : Int) (ng tr : Bool) (d1 : -100000000 ≤ dp) (d2 : dp ≤ 100000000) (w0 w : World) (h : Sh w0 w g ng ds n dp tr) (hC : LaidC w0) :
  Calls Tryz.prog 107 #[.pointer (some ⟨g, 0, none⟩), .int .i64 v] w fun e w' => e = .returned (.tuple #[]) ∧ ∃ es m dp' tr', Sh w0 w' g ng es m dp' tr' ∧ dp ≤ dp' ∧ dp' ≤ dp + 19 * k ∧ (k ≤ 60 → dp' = dp → ∀ x y, ds[0]? = some x → es[0]? = some y → 2 * (x - 48) ≤ y - 48) := by
 subst hv; exact shift_pos k k1 k2 g ds n dp ng tr d1 d2 w0 w h hC
theorem arr_lit (arr : Array Value) (n : Nat) (h : arr.size = n) : arr = ((List.range n).map fun i => arr.getD i undef).toArray := by
 apply Array.ext
 ·simp [h]
 ·intro i h1 h2
  simp [Array.getD, h1]
set_option maxRecDepth 100000 in
theorem lit_fb (u : Nat → Value) (x0 x1 x5 x6 x7 : Value) (h0 : u 0 = x0) (h1 : u 1 = x1) (h5 : u 5 = x5) (h6 : u 6 = x6) (h7 : u 7 = x7) : ((List.range 243).map u).toArray = #[x0, x1, u 2, u 3, u 4, x5, x6, x7, u 8, u 9, u 10, u 11, u 12, u 13, u 14, u 15, u 16, u 17, u 18, u 19, u 20, u 21, u 22, u 23, u 24, u 25, u 26, u 27, u 28, u 29, u 30, u 31, u 32, u 33, u 34, u 35, u 36, u 37, u 38, u 39, u 40, u 41, u 42, u 43, u 44, u 45, u 46, u 47, u 48, u 49, u 50, u 51, u 52, u 53, u 54, u 55, u 56, u 57, u 58, u 59, u 60, u 61, u 62, u 63, u 64, u 65, u 66, u 67, u 68, u 69, u 70, u 71, u 72, u 73, u 74, u 75, u 76, u 77, u 78, u 79, u 80, u 81, u 82, u 83, u 84, u 85, u 86, u 87, u 88, u 89, u 90, u 91, u 92, u 93, u 94, u 95, u 96, u 97, u 98, u 99, u 100, u 101, u 102, u 103, u 104, u 105, u 106, u 107, u 108, u 109, u 110, u 111, u 112, u 113, u 114, u 115, u 116, u 117, u 118, u 119, u 120, u 121, u 122, u 123, u 124, u 125, u 126, u 127, u 128, u 129, u 130, u 131, u 132, u 133, u 134, u 135, u 136, u 137, u 138, u 139, u 140, u 141, u 142, u 143, u 144, u 145, u 146, u 147, u 148, u 149, u 150, u 151, u 152, u 153, u 154, u 155, u 156, u 157, u 158, u 159, u 160, u 161, u 162, u 163, u 164, u 165, u 166, u 167, u 168, u 169, u 170, u 171, u 172, u 173, u 174, u 175, u 176, u 177, u 178, u 179, u 180, u 181, u 182, u 183, u 184, u 185, u 186, u 187, u 188, u 189, u 190, u 191, u 192, u 193, u 194, u 195, u 196, u 197, u 198, u 199, u 200, u 201, u 202, u 203, u 204, u 205, u 206, u 207, u 208, u 209, u 210, u 211, u 212, u 213, u 214, u 215, u 216, u 217, u 218, u 219, u 220, u 221, u 222, u 223, u 224, u 225, u 226, u 227, u 228, u 229, u 230, u 231, u 232, u 233, u 234, u 235, u 236, u 237, u 238, u 239, u 240, u 241, u 242] := by
 subst h0 h1 h5 h6 h7
 rfl
set_option maxRecDepth 100000 in
theorem FbJ.intro (w0 : World) (g l : Nat) (a : Act) (w : World) (b : Bool) (x N : Int) (hs : a.tmps.size = 243) (hd : a.defers = []) (h0 : a.tmps.getD 0 undef = .pointer (some ⟨g, 0, none⟩)) (h1 : a.tmps.getD 1 undef = .pointer (some ⟨13, 0, none⟩)) (h5 : a.tmps.getD 5 undef = .bool b) (h6 : a.tmps.getD 6 undef = .int .i64 x) (h7 : a.tmps.getD 7 undef = .int .u64 N) (hl : l ≤ 1) (hD : Aside0 (DecAny w0 w g)) : FbJ w0 g l a w := by
 obtain ⟨tm, df⟩ := a
 obtain rfl : df = [] := hd
 refine ⟨b, x, N, fun i => tm.getD i undef, ?_, hl, hD⟩
 have e := arr_lit tm 243 hs
 rw [lit_fb (fun i => tm.getD i undef) _ _ _ _ _ h0 h1 h5 h6 h7] at e
 exact congrArg (fun t => Act.mk t []) e
def IsNB (e : Ending) : Prop := ∃ N b, e = .returned (.tuple #[.int .u64 N, .bool b])
end Go.Proofs.YtjleceekccehoaaGreatDoor.Pr
end

section
-- Written by a program of this session (wip/hook.py) out of the translation. Not trusted: Lean checks it.
namespace Go.Proofs.YtjleceekccehoaaGreatDoor.Pr
open Go.RowKit Go.Proofs.YtjleceekccehoaaGreatDoorW.PrintWords Go.Proofs.YtjleceekccehoaaGreatDoorW.PrintLast Go.Proofs.YtjleceekccehoaaGreatDoorW.PrintMore
attribute [local go_sem] max2_int min2_int max_two min_two max_three min_three max_four min_four   -- for this text's walks alone
set_option linter.unusedVariables false
set_option linter.unusedSimpArgs false

/-! ### strconv_lower: function 129 -/
def strconv_lower.f (a0 : Int) : Option (Int) := some (Go.bits .or .u8 a0 32)
set_option maxHeartbeats 8000000 in
set_option maxRecDepth 100000 in
theorem strconv_lower.calls (a0 : Int) (r : Int) (w : World) (h : strconv_lower.f a0 = some r) :
  Calls Tryz.prog 129 #[.int .u8 a0] w fun e w' => e = .returned (.int .u8 r) ∧ Drawn0 w w' := by
 have H : (some (Go.bits .or .u8 a0 32)) = some r := h
 clear h
 obtain rfl := Option.some.inj H
 go_enter Tryz.func129, Tryz.ntmps129
 go_wp2
 go_ret
 exact ⟨by first | rfl | (simp; done) | (simp [*]; done), by repeat (first | exact Drawn0.refl _ | apply Drawn0.step)⟩

end Go.Proofs.YtjleceekccehoaaGreatDoor.Pr
end

section
set_option linter.unusedVariables false
set_option linter.unusedSimpArgs false
namespace Go.Proofs.YtjleceekccehoaaGreatDoor.Pr
open Go.RowKit Go.Proofs.YtjleceekccehoaaGreatDoor.Dec Go.Proofs.YtjleceekccehoaaGreatDoorW.PrintWords Go.Proofs.YtjleceekccehoaaGreatDoorW.PrintLast Go.Proofs.YtjleceekccehoaaGreatDoorW.PrintMore

theorem DecB.setNg {w0 w : World} {g : Nat} {ds : List Int} {nd dp : Int} {ng tr : Bool} (h : DecB w0 w g ds nd dp ng tr) (x : Bool) : DecB w0 (w.setCell ⟨g, 802, none⟩ (.bool x)) g ds nd dp x tr :=
 h.set_ 802 _ _ _ _ _ _ h.len (by simp [decCells, List.set_append_right, h.len])
/-- A byte that a number may hold; one that it may begin with. -/
def NumC (c : UInt8) : Prop := (48 ≤ c.toNat ∧ c.toNat ≤ 57) ∨ c.toNat = 46 ∨ c.toNat = 101 ∨ c.toNat = 69 ∨ c.toNat = 43 ∨ c.toNat = 45
structure NumT (l : List UInt8) : Prop where
 len : l.length ≤ 200
 all : ∀ (i : Nat) (c : UInt8), l[i]? = some c → NumC c
 fst : ∀ c, l[0]? = some c → (48 ≤ c.toNat ∧ c.toNat ≤ 57) ∨ c.toNat = 46
/-- The byte at a place, as the walk reads it. -/
theorem at_byte (l : List UInt8) (i : Nat) (hi : i < l.length) : ∃ z : Nat, (∀ h : i < (bs l).size, ((bs l)[i]'h).toNat = z) ∧ z < 256 ∧ ∃ c, l[i]? = some c ∧ c.toNat = z := by
 refine ⟨(l[i]).toNat, fun h => rfl, (l[i]).toNat_lt, l[i], List.getElem?_eq_getElem hi, rfl⟩
theorem num_at {l : List UInt8} {L : Nat} (hT : NumT l) (hL : l.length = L) (i : Nat) (hi : i < L) : ∃ z : Nat, (∀ h : i < (bs l).size, ((bs l)[i]'h).toNat = z) ∧ ((48 ≤ z ∧ z ≤ 57) ∨ z = 46 ∨ z = 101 ∨ z = 69 ∨ z = 43 ∨ z = 45) ∧ (i = 0 → (48 ≤ z ∧ z ≤ 57) ∨ z = 46) := by
 obtain ⟨z, h1, -, c, hc, rfl⟩ := at_byte l i (by omega)
 exact ⟨_, h1, hT.all i c hc, fun h0 => by subst h0; exact hT.fst c hc⟩
/-- The decimal while i bytes are read. -/
def SetW (w0 w : World) (g : Nat) (i : Nat) : Prop := ∃ es m dp tr, DecB w0 w g es (m : Nat) dp false tr ∧ GoodD es m ∧ m ≤ i ∧ -(i : Int) ≤ dp ∧ dp ≤ i
def SetE (w0 w : World) (g : Nat) : Prop := ∃ es m dp tr, DecB w0 w g es (m : Nat) dp false tr ∧ GoodD es m ∧ -300000 ≤ dp ∧ dp ≤ 300000
theorem SetW.e {w0 w : World} {g i : Nat} (h : SetW w0 w g i) (hi : i ≤ 200) : SetE w0 w g := by
 obtain ⟨es, m, dp, tr, h1, h2, h3, h4, h5⟩ := h
 exact ⟨es, m, dp, tr, h1, h2, by omega, by omega⟩
theorem SetE.below {w0 w w' : World} {g : Nat} (h : SetE w0 w g) (hb : Below w.heap.size w w') : SetE w0 w' g := by
 obtain ⟨es, m, dp, tr, h1, h2, h3, h4⟩ := h
 exact ⟨es, m, dp, tr, h1.below hb, h2, h3, h4⟩
theorem SetW.below {w0 w w' : World} {g i : Nat} (h : SetW w0 w g i) (hb : Below w.heap.size w w') : SetW w0 w' g i := by
 obtain ⟨es, m, dp, tr, h1, h2, h3, h4⟩ := h
 exact ⟨es, m, dp, tr, h1.below hb, h2, h3, h4⟩
theorem good_put {es : List Int} {m : Nat} (h : GoodD es m) (hm : m < 800) (x : Int) (h1 : 48 ≤ x ∧ x ≤ 57) (h0 : m = 0 → x ≠ 48) : GoodD (es.set m x) (m + 1) := by
 have hl := h.len
 refine ⟨by simp [hl], by omega, fun i y hi hy => ?_, fun _ y hy => ?_⟩
 ·by_cases he : i = m
  ·subst he
   rw [List.getElem?_set_self (by omega)] at hy
   injection hy with hy; omega
  ·rw [List.getElem?_set_ne (by omega)] at hy
   exact h.dig i y (by omega) hy
 ·by_cases he : m = 0
  ·subst he
   rw [List.getElem?_set_self (by omega)] at hy
   injection hy with hy
   have := h0 rfl; omega
  ·rw [List.getElem?_set_ne (by omega)] at hy
   exact h.one (by omega) y hy
theorem lower_any (z r : Int) (h : strconv_lower.f z = some r) (w : World) : Calls Tryz.prog 129 #[.int .u8 z] w fun e w' => e = .returned (.int .u8 r) ∧ Drawn0 w w' := strconv_lower.calls z _ w h
theorem low101 : strconv_lower.f 101 = some 101 := by kernel_rfl
theorem low69 : strconv_lower.f 69 = some 101 := by kernel_rfl
theorem low43 : strconv_lower.f 43 = some 43 := by kernel_rfl
theorem low45 : strconv_lower.f 45 = some 45 := by kernel_rfl
theorem low120 : strconv_lower.f 46 = some 46 := by kernel_rfl
/-- The first e (or E) of a text stands at p, or there is none and p is its length. -/
structure EAt (l : List UInt8) (p : Nat) : Prop where
 le : p ≤ l.length
 iff : ∀ (i : Nat) (c : UInt8), l[i]? = some c → i ≤ p → ((c.toNat = 101 ∨ c.toNat = 69) ↔ i = p)
theorem eat_at : ∀ l : List UInt8, ∃ p, EAt l p := by
 intro l
 induction l with
 | nil => exact ⟨0, ⟨by simp, fun i c h => by simp at h⟩⟩
 | cons d r ih =>
  by_cases hd : d.toNat = 101 ∨ d.toNat = 69
  ·refine ⟨0, ⟨by simp, fun i c h hi => ?_⟩⟩
   obtain rfl : i = 0 := by omega
   simp at h; subst h; simp [hd]
  ·obtain ⟨p, hp⟩ := ih
   refine ⟨p + 1, ⟨by have := hp.le; simp; omega, fun i c h hi => ?_⟩⟩
   cases i with
   | zero => simp at h; subst h; simp [hd]
   | succ i => have := hp.iff i c (by simpa using h) (by omega); rw [this]; omega
theorem num_eat {l : List UInt8} {L p : Nat} (hT : NumT l) (hL : l.length = L) (hE : EAt l p) (i : Nat) (hi : i < L) (hip : i ≤ p) : ∃ z : Nat, (∀ h : i < (bs l).size, ((bs l)[i]'h).toNat = z) ∧ ((48 ≤ z ∧ z ≤ 57) ∨ z = 46 ∨ z = 101 ∨ z = 69 ∨ z = 43 ∨ z = 45) ∧ ((z = 101 ∨ z = 69) ↔ i = p) := by
 obtain ⟨z, h1, -, c, hc, rfl⟩ := at_byte l i (by omega)
 exact ⟨_, h1, hT.all i c hc, hE.iff i c hc hip⟩
theorem low_e2 (z : Nat) (h : z = 101 ∨ z = 69) : strconv_lower.f z = some 101 := by
 rcases h with rfl | rfl
 ·exact low101
 ·exact low69
end Go.Proofs.YtjleceekccehoaaGreatDoor.Pr
end

section
set_option linter.unusedVariables false
set_option linter.unusedSimpArgs false
namespace Go.Proofs.YtjleceekccehoaaGreatDoor.Pr
open Go.RowKit Go.Proofs.YtjleceekccehoaaGreatDoorW.PrintWords Go.Proofs.YtjleceekccehoaaGreatDoorW.PrintLast Go.Proofs.YtjleceekccehoaaGreatDoorW.PrintMore

theorem low_ex (z : Nat) (h : (48 ≤ z ∧ z ≤ 57) ∨ z = 46 ∨ z = 101 ∨ z = 69 ∨ z = 43 ∨ z = 45) : ∃ r : Int, strconv_lower.f z = some r ∧ (r == 120) = false := by
 have h2 : z = 48 ∨ z = 49 ∨ z = 50 ∨ z = 51 ∨ z = 52 ∨ z = 53 ∨ z = 54 ∨ z = 55 ∨ z = 56 ∨ z = 57 ∨ z = 46 ∨ z = 101 ∨ z = 69 ∨ z = 43 ∨ z = 45 := by omega
 rcases h2 with rfl | rfl | rfl | rfl | rfl | rfl | rfl | rfl | rfl | rfl | rfl | rfl | rfl | rfl | rfl
 ·exact ⟨48, by kernel_rfl, by decide⟩
 ·exact ⟨49, by kernel_rfl, by decide⟩
 ·exact ⟨50, by kernel_rfl, by decide⟩
 ·exact ⟨51, by kernel_rfl, by decide⟩
 ·exact ⟨52, by kernel_rfl, by decide⟩
 ·exact ⟨53, by kernel_rfl, by decide⟩
 ·exact ⟨54, by kernel_rfl, by decide⟩
 ·exact ⟨55, by kernel_rfl, by decide⟩
 ·exact ⟨56, by kernel_rfl, by decide⟩
 ·exact ⟨57, by kernel_rfl, by decide⟩
 ·exact ⟨46, by kernel_rfl, by decide⟩
 ·exact ⟨101, by kernel_rfl, by decide⟩
 ·exact ⟨101, by kernel_rfl, by decide⟩
 ·exact ⟨43, by kernel_rfl, by decide⟩
 ·exact ⟨45, by kernel_rfl, by decide⟩
theorem u64_rng (x : Int) : 0 ≤ IntKind.u64.wrap x ∧ IntKind.u64.wrap x ≤ 18446744073709551615 := by
 simp [IntKind.wrap, IntKind.bits, IntKind.signed]
 omega
/-- What readFloat returns: a mantissa, a power, no sign, no hex; how many bytes. -/
def RdE (L : Nat) (e : Ending) : Prop := ∃ (M p : Int) (tr ok : Bool) (i : Nat), e = .returned (.tuple #[.int .u64 M, .int .i64 p, .bool false, .bool tr, .bool false, .int .i64 (i : Int), .bool ok]) ∧ 0 ≤ M ∧ M ≤ 18446744073709551615 ∧ i ≤ L

end Go.Proofs.YtjleceekccehoaaGreatDoor.Pr
end
