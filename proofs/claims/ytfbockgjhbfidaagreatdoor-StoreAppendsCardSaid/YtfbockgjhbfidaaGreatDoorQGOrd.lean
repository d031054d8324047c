/- Texts of this session, cut down to what one claim needs and joined: Shelf, LbBy, LbOrd. -/
import Derived.Shelf.Small.Strs
import Derived.Shelf.SlSortCmp.WholeK
import Derived.Ground.SlsfProg
import Derived.Test.YtfbockgjhbfidaaGreatDoorProg
import Derived.Test.YtfbockgjhbfidaaGreatDoorQPr0
import Derived.WalkMore
import Derived.Sort.Grow
import Derived.Deep.RegionHeldLaw
section
namespace Go.Proofs
open Go.Shelf
def Tryz.lays106_ren : Go.Shelf.Ren := ⟨fun | 106 => 76 | 213 => 86 | 265 => 90 | n => n, fun | 9 => 9 | 3 => 3 | n => n, fun | n => n⟩
theorem Tryz.lays106 : Go.Proofs.Lays.n106 Tryz.prog Tryz.lays106_ren := {
 mixed := by kernel_rfl
 f106 := Tryz.func76.trans (congrArg some (by kernel_rfl))
 f213 := Tryz.func86.trans (congrArg some (by kernel_rfl))
 f265 := Tryz.func90.trans (congrArg some (by kernel_rfl))
 t3 := Tryz.underlying3
 a3 := Tryz.isAgg3
 z3 := Tryz.sizeOf3
 v3 := Tryz.zeroValue3
 t9 := Tryz.underlying9
 a9 := Tryz.isAgg9
 z9 := Tryz.sizeOf9
 v9 := Tryz.zeroValue9 }
def Tryz.lays196_ren : Go.Shelf.Ren := ⟨fun | 196 => 78 | 259 => 87 | n => n, fun | 9 => 9 | 4 => 4 | 3 => 3 | 5 => 5 | 12 => 12 | 119 => 135 | 0 => 0 | 46 => 79 | 139 => 138 | 138 => 137 | 53 => 24 | n => n, fun | 3 => 2 | 4 => 3 | n => n⟩
theorem Tryz.lays196 : Go.Proofs.Lays.n196 Tryz.prog Tryz.lays196_ren := {
 mixed := by kernel_rfl
 f196 := Tryz.func78.trans (congrArg some (by kernel_rfl))
 f259 := Tryz.func87.trans (congrArg some (by kernel_rfl))
 t0 := Tryz.underlying0
 a0 := Tryz.isAgg0
 z0 := Tryz.sizeOf0
 v0 := Tryz.zeroValue0
 t3 := Tryz.underlying3
 a3 := Tryz.isAgg3
 z3 := Tryz.sizeOf3
 v3 := Tryz.zeroValue3
 t4 := Tryz.underlying4
 a4 := Tryz.isAgg4
 z4 := Tryz.sizeOf4
 v4 := Tryz.zeroValue4
 t5 := Tryz.underlying5
 a5 := Tryz.isAgg5
 z5 := Tryz.sizeOf5
 v5 := Tryz.zeroValue5
 t9 := Tryz.underlying9
 a9 := Tryz.isAgg9
 z9 := Tryz.sizeOf9
 v9 := Tryz.zeroValue9
 t12 := Tryz.underlying12
 a12 := Tryz.isAgg12
 z12 := Tryz.sizeOf12
 v12 := Tryz.zeroValue12
 t46 := Tryz.underlying79
 a46 := Tryz.isAgg79
 z46 := Tryz.sizeOf79
 v46 := Tryz.zeroValue79
 t53 := Tryz.underlying24
 a53 := Tryz.isAgg24
 z53 := Tryz.sizeOf24
 v53 := Tryz.zeroValue24
 t119 := Tryz.underlying135
 a119 := Tryz.isAgg135
 z119 := Tryz.sizeOf135
 t138 := Tryz.underlying137
 a138 := Tryz.isAgg137
 z138 := Tryz.sizeOf137
 v138 := Tryz.zeroValue137
 t139 := Tryz.underlying138
 a139 := Tryz.isAgg138
 z139 := Tryz.sizeOf138
 v139 := Tryz.zeroValue138
 g3 := by kernel_rfl
 g4 := by kernel_rfl }
def Tryz.sortLb_ren : Go.Shelf.Ren := ⟨fun | 6 => 37 | 15 => 55 | 14 => 54 | 28 => 73 | 29 => 74 | 20 => 65 | 21 => 66 | 22 => 67 | 23 => 68 | 24 => 69 | 25 => 70 | 26 => 71 | 27 => 72 | 46 => 81 | 47 => 82 | 48 => 83 | 49 => 84 | 50 => 85 | 57 => 89 | n => n, fun | 22 => 23 | 24 => 44 | 25 => 69 | 3 => 3 | 39 => 79 | 0 => 0 | 53 => 120 | 55 => 24 | 4 => 4 | 46 => 114 | 45 => 113 | 50 => 37 | 5 => 5 | 9 => 9 | 66 => 127 | 70 => 131 | 76 => 140 | 77 => 141 | n => n, fun | n => n⟩
theorem Tryz.sortLb : Go.Proofs.SlLaysF0.n6 Tryz.prog Tryz.sortLb_ren := {
 mixed := by kernel_rfl
 f6 := ⟨Tryz.f37.name, by decide, Tryz.func37.trans (congrArg some (by kernel_rfl))⟩
 f14 := ⟨Tryz.f54.name, by decide, Tryz.func54.trans (congrArg some (by kernel_rfl))⟩
 f15 := Tryz.func55.trans (congrArg some (by kernel_rfl))
 f20 := ⟨Tryz.f65.name, by decide, Tryz.func65.trans (congrArg some (by kernel_rfl))⟩
 f21 := ⟨Tryz.f66.name, by decide, Tryz.func66.trans (congrArg some (by kernel_rfl))⟩
 f22 := ⟨Tryz.f67.name, by decide, Tryz.func67.trans (congrArg some (by kernel_rfl))⟩
 f23 := ⟨Tryz.f68.name, by decide, Tryz.func68.trans (congrArg some (by kernel_rfl))⟩
 f24 := ⟨Tryz.f69.name, by decide, Tryz.func69.trans (congrArg some (by kernel_rfl))⟩
 f25 := ⟨Tryz.f70.name, by decide, Tryz.func70.trans (congrArg some (by kernel_rfl))⟩
 f26 := ⟨Tryz.f71.name, by decide, Tryz.func71.trans (congrArg some (by kernel_rfl))⟩
 f27 := ⟨Tryz.f72.name, by decide, Tryz.func72.trans (congrArg some (by kernel_rfl))⟩
 f28 := Tryz.func73.trans (congrArg some (by kernel_rfl))
 f29 := Tryz.func74.trans (congrArg some (by kernel_rfl))
 f46 := ⟨Tryz.f81.name, by decide, Tryz.func81.trans (congrArg some (by kernel_rfl))⟩
 f47 := Tryz.func82.trans (congrArg some (by kernel_rfl))
 f48 := Tryz.func83.trans (congrArg some (by kernel_rfl))
 f49 := ⟨Tryz.f84.name, by decide, Tryz.func84.trans (congrArg some (by kernel_rfl))⟩
 f50 := ⟨Tryz.f85.name, by decide, Tryz.func85.trans (congrArg some (by kernel_rfl))⟩
 f57 := ⟨Tryz.f89.name, by decide, Tryz.func89.trans (congrArg some (by kernel_rfl))⟩
 t0 := Tryz.underlying0
 a0 := Tryz.isAgg0
 z0 := Tryz.sizeOf0
 v0 := Tryz.zeroValue0
 t3 := Tryz.underlying3
 a3 := Tryz.isAgg3
 z3 := Tryz.sizeOf3
 v3 := Tryz.zeroValue3
 t4 := Tryz.underlying4
 a4 := Tryz.isAgg4
 z4 := Tryz.sizeOf4
 v4 := Tryz.zeroValue4
 t5 := Tryz.underlying5
 a5 := Tryz.isAgg5
 z5 := Tryz.sizeOf5
 v5 := Tryz.zeroValue5
 t9 := Tryz.underlying9
 a9 := Tryz.isAgg9
 z9 := Tryz.sizeOf9
 v9 := Tryz.zeroValue9
 t22 := Tryz.underlying23
 a22 := Tryz.isAgg23
 z22 := Tryz.sizeOf23
 v22 := Tryz.zeroValue23
 t25 := Tryz.underlying69
 a25 := Tryz.isAgg69
 z25 := Tryz.sizeOf69
 v25 := Tryz.zeroValue69
 t39 := Tryz.underlying79
 a39 := Tryz.isAgg79
 z39 := Tryz.sizeOf79
 v39 := Tryz.zeroValue79
 t45 := Tryz.underlying113
 a45 := Tryz.isAgg113
 z45 := Tryz.sizeOf113
 v45 := Tryz.zeroValue113
 t46 := Tryz.underlying114
 a46 := Tryz.isAgg114
 z46 := Tryz.sizeOf114
 v46 := Tryz.zeroValue114
 t50 := Tryz.underlying37
 a50 := Tryz.isAgg37
 z50 := Tryz.sizeOf37
 v50 := Tryz.zeroValue37
 t53 := Tryz.underlying120
 a53 := Tryz.isAgg120
 z53 := Tryz.sizeOf120
 v53 := Tryz.zeroValue120
 t55 := Tryz.underlying24
 a55 := Tryz.isAgg24
 z55 := Tryz.sizeOf24
 v55 := Tryz.zeroValue24
 t66 := Tryz.underlying127
 a66 := Tryz.isAgg127
 z66 := Tryz.sizeOf127
 v66 := Tryz.zeroValue127
 t70 := Tryz.underlying131
 a70 := Tryz.isAgg131
 z70 := Tryz.sizeOf131
 v70 := Tryz.zeroValue131
 t76 := Tryz.underlying140
 a76 := Tryz.isAgg140
 z76 := Tryz.sizeOf140
 v76 := Tryz.zeroValue140
 t77 := Tryz.underlying141
 a77 := Tryz.isAgg141
 z77 := Tryz.sizeOf141
 v77 := Tryz.zeroValue141 }
end Go.Proofs
end

section
set_option linter.unusedVariables false
set_option linter.unusedSimpArgs false
namespace Go.Proofs.YtfbockgjhbfidaaGreatDoor.Pr
open Go.RowKit Go.Proofs.YtfbockgjhbfidaaGreatDoorW.PrintWords Go.Proofs.YtfbockgjhbfidaaGreatDoorW.PrintLast Go.Proofs.YtfbockgjhbfidaaGreatDoorW.PrintMore

def cmpB (a b : ByteArray) : Int := Lib.compareBytes a.data.toList b.data.toList
def cmpL (x y : S44) : Int := if cmpB x.f0 y.f0 = 0 then cmpB x.f1 y.f1 else cmpB x.f0 y.f0
theorem compare_any (a b : ByteArray) (w : World) : Calls Tryz.prog 76 #[.string a, .string b] w fun e w' => e = .returned (.int .i64 (cmpB a b)) ∧ w' = w := Any.strings_Compare Tryz.lays106 a b w

set_option maxHeartbeats 4000000 in
set_option maxRecDepth 100000 in
theorem or_any (c1 c2 : Int) (b cap : Nat) (w : World) (h1 : w.cell? ⟨b, 0, none⟩ = some (.int .i64 c1)) (h2 : w.cell? ⟨b, 1, none⟩ = some (.int .i64 c2)) :
  Calls Tryz.prog 75 #[.slice (some ⟨b, 0, none⟩) 2 cap] w fun e w' => e = .returned (.int .i64 (if c1 = 0 then c2 else c1)) ∧ Drawn0 w w' := by
 by_cases z1 : c1 = 0
 ·subst z1
  rw [if_pos rfl]
  by_cases z2 : c2 = 0
  ·subst z2
   go_enter Tryz.func75, Tryz.ntmps75
   go_wp2
   refine wp_loop_rounds 3 ?_
   rw [rounds_succ]; go_wp2
   rw [rounds_succ]; go_wp2
   rw [rounds_succ]; go_wp2
   go_ret
   exact ⟨rfl, Drawn0.refl _⟩
  ·have z3 : (c2 == 0) = false := by simp [z2]
   have z4 : (c2 != 0) = true := by simp [z2]
   go_enter Tryz.func75, Tryz.ntmps75
   go_wp2
   refine wp_loop_rounds 3 ?_
   rw [rounds_succ]; go_wp2
   rw [rounds_succ]; go_wp2
   go_ret
   exact ⟨rfl, Drawn0.refl _⟩
 ·rw [if_neg z1]
  have z3 : (c1 == 0) = false := by simp [z1]
  have z4 : (c1 != 0) = true := by simp [z1]
  go_enter Tryz.func75, Tryz.ntmps75
  go_wp2
  refine wp_loop_rounds 3 ?_
  rw [rounds_succ]; go_wp2
  go_ret
  exact ⟨rfl, Drawn0.refl _⟩
def GrownQ (W w' : World) : Prop := ∃ q os', w' = Go.Sort.grow (W.drewN q) os'
theorem GrownQ.refl (W : World) : GrownQ W W := ⟨0, #[], by simp [Go.Sort.grow, World.drewN]⟩
theorem GrownQ.drewN {W w' : World} (h : GrownQ W w') (n : Nat) : GrownQ W (w'.drewN n) := by
 obtain ⟨q, os, rfl⟩ := h
 exact ⟨q + n, os, by simp [Go.Sort.grow, World.drewN, Nat.add_assoc]⟩
theorem GrownQ.drew {W w' : World} (h : GrownQ W w') : GrownQ W w'.drew := h.drewN 1
theorem GrownQ.drawn {W w' w2 : World} (h : GrownQ W w') (hd : Drawn0 w' w2) : GrownQ W w2 := by
 obtain ⟨n, rfl⟩ := hd
 exact h.drewN n
theorem GrownQ.alloc {W w' : World} (h : GrownQ W w') (o : Obj) : GrownQ W (w'.alloc o) := by
 obtain ⟨q, os, rfl⟩ := h
 exact ⟨q, os ++ #[o], by rw [Go.Sort.alloc_eq_grow, Go.Sort.grow_grow]⟩

set_option maxHeartbeats 4000000 in
set_option maxRecDepth 100000 in
theorem order_any (x y : S44) (W : World) : Calls Tryz.prog 56 #[.agg #[.string x.f0, .string x.f1], .agg #[.string y.f0, .string y.f1]] W fun e w' => e = .returned (.int .i64 (cmpL x y)) ∧ GrownQ W w' := by
 have H1 := Aside0.mk (compare_any x.f0 y.f0)
 have H2 := Aside0.mk (compare_any x.f1 y.f1)
 unfold cmpL
 generalize cmpB x.f0 y.f0 = c1 at *
 generalize cmpB x.f1 y.f1 = c2 at *
 have ho := or_any c1 c2
 generalize (if c1 = 0 then c2 else c1) = R at ho ⊢
 have HO := Aside0.mk ho
 clear ho
 have HG : Aside0 (GrownQ W ((W.alloc (.cells #[.string x.f0, .string x.f1] 96)).alloc (.cells #[.string y.f0, .string y.f1] 96))) := ⟨((GrownQ.refl W).alloc _).alloc _⟩
 have p0 : ((W.alloc (.cells #[.string x.f0, .string x.f1] 96)).alloc (.cells #[.string y.f0, .string y.f1] 96)).cell? ⟨W.heap.size, 0, none⟩ = some (.string x.f0) := by go_simp
 have p1 : ((W.alloc (.cells #[.string x.f0, .string x.f1] 96)).alloc (.cells #[.string y.f0, .string y.f1] 96)).cell? ⟨W.heap.size, 1, none⟩ = some (.string x.f1) := by go_simp
 have p2 : ((W.alloc (.cells #[.string x.f0, .string x.f1] 96)).alloc (.cells #[.string y.f0, .string y.f1] 96)).cell? ⟨W.heap.size + 1, 0, none⟩ = some (.string y.f0) := by go_simp
 have p3 : ((W.alloc (.cells #[.string x.f0, .string x.f1] 96)).alloc (.cells #[.string y.f0, .string y.f1] 96)).cell? ⟨W.heap.size + 1, 1, none⟩ = some (.string y.f1) := by go_simp
 go_enter Tryz.func56, Tryz.ntmps56
 go_wp2_with (fail)
 go_region_held_law (fun w' => w'.cell? ⟨W.heap.size, 0, none⟩ = some (.string x.f0) ∧ w'.cell? ⟨W.heap.size, 1, none⟩ = some (.string x.f1) ∧ w'.cell? ⟨W.heap.size + 1, 0, none⟩ = some (.string y.f0) ∧ w'.cell? ⟨W.heap.size + 1, 1, none⟩ = some (.string y.f1) ∧ GrownQ W w')
  (first | exact ⟨p0, p1, p2, p3, HG.out⟩ | exact ⟨by go_simp, by go_simp, by go_simp, by go_simp, (HG.out.alloc _).drew⟩ | exact ⟨by go_simp, by go_simp, by go_simp, by go_simp, (HG.out.alloc _).drew.drewN _⟩ | exact ⟨by go_simp, by go_simp, by go_simp, by go_simp, HG.out.alloc _⟩ | exact ⟨by go_simp, by go_simp, by go_simp, by go_simp, (HG.out.alloc _).drewN _⟩ | exact ⟨p0, p1, p2, p3, HG.out.drew⟩ | (go_split_ands; exact ⟨by assumption, by assumption, by assumption, by assumption, by assumption⟩) | go_keep)
  (first | (go_at_call 76; refine (H1.out _).mono ?_; rintro e w' ⟨rfl, rfl⟩) | (go_at_call 76; refine (H2.out _).mono ?_; rintro e w' ⟨rfl, rfl⟩) | (go_at_call 75; refine (HO.out _ _ _ (by go_simp) (by go_simp)).mono ?_; rintro e w' ⟨rfl, n_, rfl⟩))
 go_wp2
 go_ret
 refine ⟨rfl, ?_⟩
 rename_i hh
 exact hh.2.2.2.2
theorem GrownQ.trans {W w1 w2 : World} (h : GrownQ W w1) (h2 : GrownQ w1 w2) : GrownQ W w2 := by
 obtain ⟨q, os, rfl⟩ := h
 obtain ⟨q2, os2, rfl⟩ := h2
 exact ⟨q + q2, os ++ os2, by simp [Go.Sort.grow, World.drewN, Nat.add_assoc, Array.append_assoc]⟩

set_option maxHeartbeats 4000000 in
set_option maxRecDepth 100000 in
theorem by_any (x y : S44) (W : World) : Calls Tryz.prog 38 #[.agg #[.string x.f0, .string x.f1], .agg #[.string y.f0, .string y.f1]] W fun e w' => e = .returned (.int .i64 (cmpL x y)) ∧ GrownQ W w' := by
 have HG : Aside0 (GrownQ W ((W.alloc (.cells #[.string x.f0, .string x.f1] 44)).alloc (.cells #[.string y.f0, .string y.f1] 44))) := ⟨((GrownQ.refl W).alloc _).alloc _⟩
 have HO := Aside0.mk (order_any x y)
 generalize cmpL x y = R at *
 go_enter Tryz.func38, Tryz.ntmps38
 go_wp2_with (go_at_call 56; refine (HO.out _).mono ?_; rintro e w' ⟨rfl, hg⟩)
 go_ret
 exact ⟨rfl, HG.out.trans hg⟩

/-! ### The order is one -/
end Go.Proofs.YtfbockgjhbfidaaGreatDoor.Pr
end

section
set_option linter.unusedVariables false
set_option linter.unusedSimpArgs false
namespace Go.Proofs.YtfbockgjhbfidaaGreatDoor.Pr
open Go.RowKit Go.Proofs.YtfbockgjhbfidaaGreatDoorW.PrintWords

theorem cb_neg : ∀ a b : List UInt8, Lib.compareBytes b a = - Lib.compareBytes a b
 | [], [] => rfl
 | [], _ :: _ => rfl
 | _ :: _, [] => rfl
 | a :: al, b :: bl => by
  unfold Lib.compareBytes
  rw [cb_neg al bl]
  simp only [UInt8.lt_iff_toNat_lt]
  by_cases h1 : a.toNat < b.toNat
  ·rw [if_neg (by omega), if_pos h1, if_pos h1]; rfl
  ·by_cases h2 : b.toNat < a.toNat
   ·rw [if_pos h2, if_neg h1, if_pos h2]
   ·rw [if_neg h2, if_neg h1, if_neg h1, if_neg h2]
theorem cb_zero : ∀ a b : List UInt8, Lib.compareBytes a b = 0 ↔ a = b
 | [], [] => by simp [Lib.compareBytes]
 | [], _ :: _ => by simp [Lib.compareBytes]
 | _ :: _, [] => by simp [Lib.compareBytes]
 | a :: al, b :: bl => by
  unfold Lib.compareBytes
  simp only [UInt8.lt_iff_toNat_lt]
  rw [List.cons.injEq, ← UInt8.toNat_inj]
  by_cases h1 : a.toNat < b.toNat
  ·rw [if_pos h1]
   constructor
   ·intro h; cases h
   ·intro h; omega
  ·by_cases h2 : b.toNat < a.toNat
   ·rw [if_neg h1, if_pos h2]
    constructor
    ·intro h; cases h
    ·intro h; omega
   ·rw [if_neg h1, if_neg h2, cb_zero al bl]
    constructor
    ·intro h; exact ⟨by omega, h⟩
    ·intro h; exact h.2
theorem cb_trans : ∀ a b c : List UInt8, Lib.compareBytes a b ≤ 0 → Lib.compareBytes b c ≤ 0 → Lib.compareBytes a c ≤ 0
 | [], _, [], _, _ => by simp [Lib.compareBytes]
 | [], _, _ :: _, _, _ => by simp [Lib.compareBytes]
 | _ :: _, [], _, h, _ => by simp [Lib.compareBytes] at h
 | _ :: _, _ :: _, [], _, h => by simp [Lib.compareBytes] at h
 | a :: al, b :: bl, c :: cl, h, h2 => by
  unfold Lib.compareBytes at h h2 ⊢
  simp only [UInt8.lt_iff_toNat_lt] at h h2 ⊢
  by_cases c1 : a.toNat < c.toNat
  ·rw [if_pos c1]; omega
  ·rw [if_neg c1]
   by_cases x1 : a.toNat < b.toNat
   ·rw [if_neg (by omega), if_pos (by omega)] at h2
    omega
   ·rw [if_neg x1] at h
    by_cases x2 : b.toNat < a.toNat
    ·rw [if_pos x2] at h
     omega
    ·rw [if_neg x2] at h
     by_cases y1 : b.toNat < c.toNat
     ·omega
     ·rw [if_neg y1] at h2
      by_cases y2 : c.toNat < b.toNat
      ·rw [if_pos y2] at h2
       omega
      ·rw [if_neg y2] at h2
       rw [if_neg (by omega)]
       exact cb_trans al bl cl h h2
theorem cb_less : ∀ a b : List UInt8, Op.bytesLess a b = decide (Lib.compareBytes a b < 0)
 | [], [] => rfl
 | [], _ :: _ => rfl
 | _ :: _, [] => rfl
 | a :: al, b :: bl => by
  unfold Op.bytesLess Lib.compareBytes
  rw [cb_less al bl]
  by_cases h1 : a < b
  ·rw [if_pos h1, decide_eq_true h1]; rfl
  ·rw [if_neg h1, decide_eq_false h1]
   by_cases h2 : b < a
   ·have : (a == b) = false := by
     apply beq_eq_false_iff_ne.mpr
     intro e
     rw [UInt8.lt_iff_toNat_lt, e] at h2
     omega
    rw [if_pos h2, this]; rfl
   ·have : a = b := by
     rw [UInt8.lt_iff_toNat_lt] at h1 h2
     rw [← UInt8.toNat_inj]
     omega
    rw [if_neg h2, this]
    simp

/-! ### Texts, labels -/
theorem cmpB_neg (a b : ByteArray) : cmpB b a = - cmpB a b := cb_neg _ _
theorem cmpB_zero (a b : ByteArray) : cmpB a b = 0 ↔ a = b := by
 unfold cmpB
 rw [cb_zero]
 constructor
 ·intro h; exact ByteArray.ext (Array.toList_inj.mp h)
 ·intro h; rw [h]
theorem cmpB_trans {a b c : ByteArray} (h : cmpB a b ≤ 0) (h2 : cmpB b c ≤ 0) : cmpB a c ≤ 0 := cb_trans _ _ _ h h2
theorem cmpB_less (a b : ByteArray) : Op.bytesLess a.toList b.toList = decide (cmpB a b < 0) := by
 unfold cmpB
 rw [Lib.toList_data, Lib.toList_data, cb_less]
theorem str_gtr (t : TypeId) (a b : ByteArray) : binOp .gtr t (.string a) (.string b) = pure (.bool (Op.bytesLess b.toList a.toList)) := by
 have h : binOp .gtr t (.string a) (.string b) = pure (.bool !(Op.bytesLess a.toList b.toList || a.toList == b.toList)) := by simp [binOp, Op.stringOp]
 rw [h]
 congr 2
 rw [cb_less, cb_less, cb_neg a.toList b.toList]
 have hz := cb_zero a.toList b.toList
 by_cases h1 : Lib.compareBytes a.toList b.toList < 0
 ·rw [decide_eq_true h1, decide_eq_false (by omega)]; rfl
 ·rw [decide_eq_false h1]
  by_cases h2 : Lib.compareBytes a.toList b.toList = 0
  ·rw [hz.1 h2, decide_eq_false (by rw [(cb_zero _ _).2 rfl]; omega)]; simp
  ·have h3 : (a.toList == b.toList) = false := beq_eq_false_iff_ne.mpr (fun e => h2 (hz.2 e))
   rw [h3, decide_eq_true (by omega)]; rfl
theorem cmpB_lt_trans {a b c : ByteArray} (h : cmpB a b < 0) (h2 : cmpB b c ≤ 0) : cmpB a c < 0 := by
 rcases Int.lt_or_le (cmpB a c) 0 with h3 | h3
 ·exact h3
 ·have h4 : cmpB c a ≤ 0 := by rw [cmpB_neg]; omega
  have h5 := cmpB_trans h2 h4
  rw [cmpB_neg] at h5
  omega
theorem cmpL_neg (x y : S44) : cmpL y x = - cmpL x y := by
 unfold cmpL
 rw [cmpB_neg x.f0, cmpB_neg x.f1]
 by_cases h : cmpB x.f0 y.f0 = 0
 ·rw [if_pos (by omega), if_pos h]
 ·rw [if_neg (by omega), if_neg h]
theorem cmpL_zero (x y : S44) : cmpL x y = 0 ↔ x = y := by
 obtain ⟨a, b⟩ := x
 obtain ⟨c, d⟩ := y
 show (if cmpB a c = 0 then cmpB b d else cmpB a c) = 0 ↔ _
 by_cases h : cmpB a c = 0
 ·rw [if_pos h, cmpB_zero]
  rw [cmpB_zero] at h
  simp [h]
 ·rw [if_neg h]
  constructor
  ·intro h2; exact absurd h2 h
  ·intro h2
   injection h2 with h3 h4
   exact absurd ((cmpB_zero _ _).2 h3) h
theorem cmpL_trans {x y z : S44} (h : cmpL x y ≤ 0) (h2 : cmpL y z ≤ 0) : cmpL x z ≤ 0 := by
 unfold cmpL at *
 by_cases a : cmpB x.f0 y.f0 = 0
 ·rw [if_pos a] at h
  rw [cmpB_zero] at a
  rw [a]
  by_cases b : cmpB y.f0 z.f0 = 0
  ·rw [if_pos b] at h2 ⊢
   exact cmpB_trans h h2
  ·rw [if_neg b] at h2 ⊢
   exact h2
 ·rw [if_neg a] at h
  have h3 : cmpB y.f0 z.f0 ≤ 0 := by
   by_cases b : cmpB y.f0 z.f0 = 0
   ·omega
   ·rw [if_neg b] at h2; exact h2
  have h4 := cmpB_lt_trans (by omega : cmpB x.f0 y.f0 < 0) h3
  rw [if_neg (by omega)]
  omega
end Go.Proofs.YtfbockgjhbfidaaGreatDoor.Pr
end
