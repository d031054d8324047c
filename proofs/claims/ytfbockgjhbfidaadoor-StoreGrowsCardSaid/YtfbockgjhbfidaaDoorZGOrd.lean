/- Texts of this session, cut down to what one claim needs and joined: Shelf, LbBy, LbOrd. -/
import Derived.Shelf.Small.Strs
import Derived.Shelf.SlSortCmp.WholeK
import Derived.Ground.SlsfProg
import Derived.Test.YtfbockgjhbfidaaDoorProg
import Derived.Test.YtfbockgjhbfidaaDoorZPr0
import Derived.WalkMore
import Derived.Sort.Grow
import Derived.Deep.RegionHeldLaw
section
namespace Go.Proofs
open Go.Shelf
def Tryd.lays106_ren : Go.Shelf.Ren := ⟨fun | 106 => 122 | 213 => 138 | 265 => 147 | n => n, fun | 9 => 9 | 3 => 3 | n => n, fun | n => n⟩
theorem Tryd.lays106 : Go.Proofs.Lays.n106 Tryd.prog Tryd.lays106_ren := {
  mixed := by kernel_rfl
  f106 := Tryd.func122.trans (congrArg some (by kernel_rfl))
  f213 := Tryd.func138.trans (congrArg some (by kernel_rfl))
  f265 := Tryd.func147.trans (congrArg some (by kernel_rfl))
  t3 := Tryd.underlying3
  a3 := Tryd.isAgg3
  z3 := Tryd.sizeOf3
  v3 := Tryd.zeroValue3
  t9 := Tryd.underlying9
  a9 := Tryd.isAgg9
  z9 := Tryd.sizeOf9
  v9 := Tryd.zeroValue9 }
def Tryd.lays196_ren : Go.Shelf.Ren := ⟨fun | 196 => 123 | 259 => 139 | n => n, fun | 9 => 9 | 4 => 4 | 3 => 3 | 5 => 5 | 12 => 12 | 119 => 205 | 0 => 0 | 46 => 145 | 139 => 208 | 138 => 207 | 53 => 54 | n => n, fun | 3 => 2 | 4 => 3 | n => n⟩
theorem Tryd.lays196 : Go.Proofs.Lays.n196 Tryd.prog Tryd.lays196_ren := {
  mixed := by kernel_rfl
  f196 := Tryd.func123.trans (congrArg some (by kernel_rfl))
  f259 := Tryd.func139.trans (congrArg some (by kernel_rfl))
  t0 := Tryd.underlying0
  a0 := Tryd.isAgg0
  z0 := Tryd.sizeOf0
  v0 := Tryd.zeroValue0
  t3 := Tryd.underlying3
  a3 := Tryd.isAgg3
  z3 := Tryd.sizeOf3
  v3 := Tryd.zeroValue3
  t4 := Tryd.underlying4
  a4 := Tryd.isAgg4
  z4 := Tryd.sizeOf4
  v4 := Tryd.zeroValue4
  t5 := Tryd.underlying5
  a5 := Tryd.isAgg5
  z5 := Tryd.sizeOf5
  v5 := Tryd.zeroValue5
  t9 := Tryd.underlying9
  a9 := Tryd.isAgg9
  z9 := Tryd.sizeOf9
  v9 := Tryd.zeroValue9
  t12 := Tryd.underlying12
  a12 := Tryd.isAgg12
  z12 := Tryd.sizeOf12
  v12 := Tryd.zeroValue12
  t46 := Tryd.underlying145
  a46 := Tryd.isAgg145
  z46 := Tryd.sizeOf145
  v46 := Tryd.zeroValue145
  t53 := Tryd.underlying54
  a53 := Tryd.isAgg54
  z53 := Tryd.sizeOf54
  v53 := Tryd.zeroValue54
  t119 := Tryd.underlying205
  a119 := Tryd.isAgg205
  z119 := Tryd.sizeOf205
  t138 := Tryd.underlying207
  a138 := Tryd.isAgg207
  z138 := Tryd.sizeOf207
  v138 := Tryd.zeroValue207
  t139 := Tryd.underlying208
  a139 := Tryd.isAgg208
  z139 := Tryd.sizeOf208
  v139 := Tryd.zeroValue208
  g3 := by kernel_rfl
  g4 := by kernel_rfl }
def Tryd.sortLb_ren : Go.Shelf.Ren := ⟨fun | 6 => 52 | 15 => 88 | 14 => 87 | 28 => 119 | 29 => 120 | 20 => 111 | 21 => 112 | 22 => 113 | 23 => 114 | 24 => 115 | 25 => 116 | 26 => 117 | 27 => 118 | 46 => 133 | 47 => 134 | 48 => 135 | 49 => 136 | 50 => 137 | 57 => 146 | n => n, fun | 22 => 36 | 24 => 46 | 25 => 102 | 3 => 3 | 39 => 145 | 0 => 0 | 53 => 75 | 55 => 54 | 4 => 4 | 46 => 183 | 45 => 182 | 50 => 67 | 5 => 5 | 9 => 9 | 66 => 198 | 70 => 202 | 76 => 214 | 77 => 215 | n => n, fun | n => n⟩
theorem Tryd.sortLb : Go.Proofs.SlLaysF0.n6 Tryd.prog Tryd.sortLb_ren := {
  mixed := by kernel_rfl
  f6 := ⟨Tryd.f52.name, by decide, Tryd.func52.trans (congrArg some (by kernel_rfl))⟩
  f14 := ⟨Tryd.f87.name, by decide, Tryd.func87.trans (congrArg some (by kernel_rfl))⟩
  f15 := Tryd.func88.trans (congrArg some (by kernel_rfl))
  f20 := ⟨Tryd.f111.name, by decide, Tryd.func111.trans (congrArg some (by kernel_rfl))⟩
  f21 := ⟨Tryd.f112.name, by decide, Tryd.func112.trans (congrArg some (by kernel_rfl))⟩
  f22 := ⟨Tryd.f113.name, by decide, Tryd.func113.trans (congrArg some (by kernel_rfl))⟩
  f23 := ⟨Tryd.f114.name, by decide, Tryd.func114.trans (congrArg some (by kernel_rfl))⟩
  f24 := ⟨Tryd.f115.name, by decide, Tryd.func115.trans (congrArg some (by kernel_rfl))⟩
  f25 := ⟨Tryd.f116.name, by decide, Tryd.func116.trans (congrArg some (by kernel_rfl))⟩
  f26 := ⟨Tryd.f117.name, by decide, Tryd.func117.trans (congrArg some (by kernel_rfl))⟩
  f27 := ⟨Tryd.f118.name, by decide, Tryd.func118.trans (congrArg some (by kernel_rfl))⟩
  f28 := Tryd.func119.trans (congrArg some (by kernel_rfl))
  f29 := Tryd.func120.trans (congrArg some (by kernel_rfl))
  f46 := ⟨Tryd.f133.name, by decide, Tryd.func133.trans (congrArg some (by kernel_rfl))⟩
  f47 := Tryd.func134.trans (congrArg some (by kernel_rfl))
  f48 := Tryd.func135.trans (congrArg some (by kernel_rfl))
  f49 := ⟨Tryd.f136.name, by decide, Tryd.func136.trans (congrArg some (by kernel_rfl))⟩
  f50 := ⟨Tryd.f137.name, by decide, Tryd.func137.trans (congrArg some (by kernel_rfl))⟩
  f57 := ⟨Tryd.f146.name, by decide, Tryd.func146.trans (congrArg some (by kernel_rfl))⟩
  t0 := Tryd.underlying0
  a0 := Tryd.isAgg0
  z0 := Tryd.sizeOf0
  v0 := Tryd.zeroValue0
  t3 := Tryd.underlying3
  a3 := Tryd.isAgg3
  z3 := Tryd.sizeOf3
  v3 := Tryd.zeroValue3
  t4 := Tryd.underlying4
  a4 := Tryd.isAgg4
  z4 := Tryd.sizeOf4
  v4 := Tryd.zeroValue4
  t5 := Tryd.underlying5
  a5 := Tryd.isAgg5
  z5 := Tryd.sizeOf5
  v5 := Tryd.zeroValue5
  t9 := Tryd.underlying9
  a9 := Tryd.isAgg9
  z9 := Tryd.sizeOf9
  v9 := Tryd.zeroValue9
  t22 := Tryd.underlying36
  a22 := Tryd.isAgg36
  z22 := Tryd.sizeOf36
  v22 := Tryd.zeroValue36
  t25 := Tryd.underlying102
  a25 := Tryd.isAgg102
  z25 := Tryd.sizeOf102
  v25 := Tryd.zeroValue102
  t39 := Tryd.underlying145
  a39 := Tryd.isAgg145
  z39 := Tryd.sizeOf145
  v39 := Tryd.zeroValue145
  t45 := Tryd.underlying182
  a45 := Tryd.isAgg182
  z45 := Tryd.sizeOf182
  v45 := Tryd.zeroValue182
  t46 := Tryd.underlying183
  a46 := Tryd.isAgg183
  z46 := Tryd.sizeOf183
  v46 := Tryd.zeroValue183
  t50 := Tryd.underlying67
  a50 := Tryd.isAgg67
  z50 := Tryd.sizeOf67
  v50 := Tryd.zeroValue67
  t53 := Tryd.underlying75
  a53 := Tryd.isAgg75
  z53 := Tryd.sizeOf75
  v53 := Tryd.zeroValue75
  t55 := Tryd.underlying54
  a55 := Tryd.isAgg54
  z55 := Tryd.sizeOf54
  v55 := Tryd.zeroValue54
  t66 := Tryd.underlying198
  a66 := Tryd.isAgg198
  z66 := Tryd.sizeOf198
  v66 := Tryd.zeroValue198
  t70 := Tryd.underlying202
  a70 := Tryd.isAgg202
  z70 := Tryd.sizeOf202
  v70 := Tryd.zeroValue202
  t76 := Tryd.underlying214
  a76 := Tryd.isAgg214
  z76 := Tryd.sizeOf214
  v76 := Tryd.zeroValue214
  t77 := Tryd.underlying215
  a77 := Tryd.isAgg215
  z77 := Tryd.sizeOf215
  v77 := Tryd.zeroValue215 }
end Go.Proofs
end

section
set_option linter.unusedVariables false
set_option linter.unusedSimpArgs false
namespace Go.Proofs.YtfbockgjhbfidaaDoor.Pr
open Go.RowKit Go.Proofs.YtfbockgjhbfidaaDoorW.PrintWords Go.Proofs.YtfbockgjhbfidaaDoorW.PrintLast Go.Proofs.YtfbockgjhbfidaaDoorW.PrintMore

def cmpB (a b : ByteArray) : Int := Lib.compareBytes a.data.toList b.data.toList
def cmpL (x y : S46) : Int := if cmpB x.f0 y.f0 = 0 then cmpB x.f1 y.f1 else cmpB x.f0 y.f0
theorem compare_any (a b : ByteArray) (w : World) : Calls Tryd.prog 122 #[.string a, .string b] w fun e w' => e = .returned (.int .i64 (cmpB a b)) ∧ w' = w := Any.strings_Compare Tryd.lays106 a b w

set_option maxHeartbeats 4000000 in
set_option maxRecDepth 100000 in
theorem or_any (c1 c2 : Int) (b cap : Nat) (w : World) (h1 : w.cell? ⟨b, 0, none⟩ = some (.int .i64 c1)) (h2 : w.cell? ⟨b, 1, none⟩ = some (.int .i64 c2)) :
    Calls Tryd.prog 121 #[.slice (some ⟨b, 0, none⟩) 2 cap] w fun e w' => e = .returned (.int .i64 (if c1 = 0 then c2 else c1)) ∧ Drawn0 w w' := by
  by_cases z1 : c1 = 0
  · subst z1
    rw [if_pos rfl]
    by_cases z2 : c2 = 0
    · subst z2
      go_enter Tryd.func121, Tryd.ntmps121
      go_wp2
      refine wp_loop_rounds 3 ?_
      rw [rounds_succ]; go_wp2
      rw [rounds_succ]; go_wp2
      rw [rounds_succ]; go_wp2
      go_ret
      exact ⟨rfl, Drawn0.refl _⟩
    · have z3 : (c2 == 0) = false := by simp [z2]
      have z4 : (c2 != 0) = true := by simp [z2]
      go_enter Tryd.func121, Tryd.ntmps121
      go_wp2
      refine wp_loop_rounds 3 ?_
      rw [rounds_succ]; go_wp2
      rw [rounds_succ]; go_wp2
      go_ret
      exact ⟨rfl, Drawn0.refl _⟩
  · rw [if_neg z1]
    have z3 : (c1 == 0) = false := by simp [z1]
    have z4 : (c1 != 0) = true := by simp [z1]
    go_enter Tryd.func121, Tryd.ntmps121
    go_wp2
    refine wp_loop_rounds 3 ?_
    rw [rounds_succ]; go_wp2
    go_ret
    exact ⟨rfl, Drawn0.refl _⟩
def GrownQ (W w' : World) : Prop := ∃ q os', w' = Go.Sort.grow (W.drewN q) os'
theorem GrownQ.refl (W : World) : GrownQ W W := ⟨0, #[], by simp [Go.Sort.grow, World.drewN]⟩
theorem GrownQ.drewN {W w' : World} (h : GrownQ W w') (n : Nat) : GrownQ W (w'.drewN n) := by
  obtain ⟨q, os, rfl⟩ := h
  exact ⟨q + n, os, by simp [Go.Sort.grow, World.drewN, Nat.add_assoc]⟩
theorem GrownQ.drew {W w' : World} (h : GrownQ W w') : GrownQ W w'.drew := h.drewN 1
theorem GrownQ.drawn {W w' w2 : World} (h : GrownQ W w') (hd : Drawn0 w' w2) : GrownQ W w2 := by
  obtain ⟨n, rfl⟩ := hd
  exact h.drewN n
theorem GrownQ.alloc {W w' : World} (h : GrownQ W w') (o : Obj) : GrownQ W (w'.alloc o) := by
  obtain ⟨q, os, rfl⟩ := h
  exact ⟨q, os ++ #[o], by rw [Go.Sort.alloc_eq_grow, Go.Sort.grow_grow]⟩

set_option maxHeartbeats 4000000 in
set_option maxRecDepth 100000 in
theorem order_any (x y : S46) (W : World) : Calls Tryd.prog 89 #[.agg #[.string x.f0, .string x.f1], .agg #[.string y.f0, .string y.f1]] W fun e w' => e = .returned (.int .i64 (cmpL x y)) ∧ GrownQ W w' := by
  have H1 := Aside0.mk (compare_any x.f0 y.f0)
  have H2 := Aside0.mk (compare_any x.f1 y.f1)
  unfold cmpL
  generalize cmpB x.f0 y.f0 = c1 at *
  generalize cmpB x.f1 y.f1 = c2 at *
  have ho := or_any c1 c2
  generalize (if c1 = 0 then c2 else c1) = R at ho ⊢
  have HO := Aside0.mk ho
  clear ho
  have HG : Aside0 (GrownQ W ((W.alloc (.cells #[.string x.f0, .string x.f1] 148)).alloc (.cells #[.string y.f0, .string y.f1] 148))) := ⟨((GrownQ.refl W).alloc _).alloc _⟩
  have p0 : ((W.alloc (.cells #[.string x.f0, .string x.f1] 148)).alloc (.cells #[.string y.f0, .string y.f1] 148)).cell? ⟨W.heap.size, 0, none⟩ = some (.string x.f0) := by go_simp
  have p1 : ((W.alloc (.cells #[.string x.f0, .string x.f1] 148)).alloc (.cells #[.string y.f0, .string y.f1] 148)).cell? ⟨W.heap.size, 1, none⟩ = some (.string x.f1) := by go_simp
  have p2 : ((W.alloc (.cells #[.string x.f0, .string x.f1] 148)).alloc (.cells #[.string y.f0, .string y.f1] 148)).cell? ⟨W.heap.size + 1, 0, none⟩ = some (.string y.f0) := by go_simp
  have p3 : ((W.alloc (.cells #[.string x.f0, .string x.f1] 148)).alloc (.cells #[.string y.f0, .string y.f1] 148)).cell? ⟨W.heap.size + 1, 1, none⟩ = some (.string y.f1) := by go_simp
  go_enter Tryd.func89, Tryd.ntmps89
  go_wp2_with (fail)
  go_region_held_law (fun w' => w'.cell? ⟨W.heap.size, 0, none⟩ = some (.string x.f0) ∧ w'.cell? ⟨W.heap.size, 1, none⟩ = some (.string x.f1) ∧ w'.cell? ⟨W.heap.size + 1, 0, none⟩ = some (.string y.f0) ∧ w'.cell? ⟨W.heap.size + 1, 1, none⟩ = some (.string y.f1) ∧ GrownQ W w')
    (first | exact ⟨p0, p1, p2, p3, HG.out⟩ | exact ⟨by go_simp, by go_simp, by go_simp, by go_simp, (HG.out.alloc _).drew⟩ | exact ⟨by go_simp, by go_simp, by go_simp, by go_simp, (HG.out.alloc _).drew.drewN _⟩ | exact ⟨by go_simp, by go_simp, by go_simp, by go_simp, HG.out.alloc _⟩ | exact ⟨by go_simp, by go_simp, by go_simp, by go_simp, (HG.out.alloc _).drewN _⟩ | exact ⟨p0, p1, p2, p3, HG.out.drew⟩ | (go_split_ands; exact ⟨by assumption, by assumption, by assumption, by assumption, by assumption⟩) | go_keep)
    (first | (go_at_call 122; refine (H1.out _).mono ?_; rintro e w' ⟨rfl, rfl⟩) | (go_at_call 122; refine (H2.out _).mono ?_; rintro e w' ⟨rfl, rfl⟩) | (go_at_call 121; refine (HO.out _ _ _ (by go_simp) (by go_simp)).mono ?_; rintro e w' ⟨rfl, n_, rfl⟩))
  go_wp2
  go_ret
  refine ⟨rfl, ?_⟩
  rename_i hh
  exact hh.2.2.2.2
theorem GrownQ.trans {W w1 w2 : World} (h : GrownQ W w1) (h2 : GrownQ w1 w2) : GrownQ W w2 := by
  obtain ⟨q, os, rfl⟩ := h
  obtain ⟨q2, os2, rfl⟩ := h2
  exact ⟨q + q2, os ++ os2, by simp [Go.Sort.grow, World.drewN, Nat.add_assoc, Array.append_assoc]⟩

set_option maxHeartbeats 4000000 in
set_option maxRecDepth 100000 in
theorem by_any (x y : S46) (W : World) : Calls Tryd.prog 53 #[.agg #[.string x.f0, .string x.f1], .agg #[.string y.f0, .string y.f1]] W fun e w' => e = .returned (.int .i64 (cmpL x y)) ∧ GrownQ W w' := by
  have HG : Aside0 (GrownQ W ((W.alloc (.cells #[.string x.f0, .string x.f1] 46)).alloc (.cells #[.string y.f0, .string y.f1] 46))) := ⟨((GrownQ.refl W).alloc _).alloc _⟩
  have HO := Aside0.mk (order_any x y)
  generalize cmpL x y = R at *
  go_enter Tryd.func53, Tryd.ntmps53
  go_wp2_with (go_at_call 89; refine (HO.out _).mono ?_; rintro e w' ⟨rfl, hg⟩)
  go_ret
  exact ⟨rfl, HG.out.trans hg⟩

/-! ### The order is one -/
end Go.Proofs.YtfbockgjhbfidaaDoor.Pr
end

section
set_option linter.unusedVariables false
set_option linter.unusedSimpArgs false
namespace Go.Proofs.YtfbockgjhbfidaaDoor.Pr
open Go.RowKit Go.Proofs.YtfbockgjhbfidaaDoorW.PrintWords

theorem cb_neg : ∀ a b : List UInt8, Lib.compareBytes b a = - Lib.compareBytes a b
  | [], [] => rfl
  | [], _ :: _ => rfl
  | _ :: _, [] => rfl
  | a :: al, b :: bl => by
    unfold Lib.compareBytes
    rw [cb_neg al bl]
    simp only [UInt8.lt_iff_toNat_lt]
    by_cases h1 : a.toNat < b.toNat
    · rw [if_neg (by omega), if_pos h1, if_pos h1]; rfl
    · by_cases h2 : b.toNat < a.toNat
      · rw [if_pos h2, if_neg h1, if_pos h2]
      · rw [if_neg h2, if_neg h1, if_neg h1, if_neg h2]
theorem cb_zero : ∀ a b : List UInt8, Lib.compareBytes a b = 0 ↔ a = b
  | [], [] => by simp [Lib.compareBytes]
  | [], _ :: _ => by simp [Lib.compareBytes]
  | _ :: _, [] => by simp [Lib.compareBytes]
  | a :: al, b :: bl => by
    unfold Lib.compareBytes
    simp only [UInt8.lt_iff_toNat_lt]
    rw [List.cons.injEq, ← UInt8.toNat_inj]
    by_cases h1 : a.toNat < b.toNat
    · rw [if_pos h1]
      constructor
      · intro h; cases h
      · intro h; omega
    · by_cases h2 : b.toNat < a.toNat
      · rw [if_neg h1, if_pos h2]
        constructor
        · intro h; cases h
        · intro h; omega
      · rw [if_neg h1, if_neg h2, cb_zero al bl]
        constructor
        · intro h; exact ⟨by omega, h⟩
        · intro h; exact h.2
theorem cb_trans : ∀ a b c : List UInt8, Lib.compareBytes a b ≤ 0 → Lib.compareBytes b c ≤ 0 → Lib.compareBytes a c ≤ 0
  | [], _, [], _, _ => by simp [Lib.compareBytes]
  | [], _, _ :: _, _, _ => by simp [Lib.compareBytes]
  | _ :: _, [], _, h, _ => by simp [Lib.compareBytes] at h
  | _ :: _, _ :: _, [], _, h => by simp [Lib.compareBytes] at h
  | a :: al, b :: bl, c :: cl, h, h2 => by
    unfold Lib.compareBytes at h h2 ⊢
    simp only [UInt8.lt_iff_toNat_lt] at h h2 ⊢
    by_cases c1 : a.toNat < c.toNat
    · rw [if_pos c1]; omega
    · rw [if_neg c1]
      by_cases x1 : a.toNat < b.toNat
      · rw [if_neg (by omega), if_pos (by omega)] at h2
        omega
      · rw [if_neg x1] at h
        by_cases x2 : b.toNat < a.toNat
        · rw [if_pos x2] at h
          omega
        · rw [if_neg x2] at h
          by_cases y1 : b.toNat < c.toNat
          · omega
          · rw [if_neg y1] at h2
            by_cases y2 : c.toNat < b.toNat
            · rw [if_pos y2] at h2
              omega
            · rw [if_neg y2] at h2
              rw [if_neg (by omega)]
              exact cb_trans al bl cl h h2
theorem cb_less : ∀ a b : List UInt8, Op.bytesLess a b = decide (Lib.compareBytes a b < 0)
  | [], [] => rfl
  | [], _ :: _ => rfl
  | _ :: _, [] => rfl
  | a :: al, b :: bl => by
    unfold Op.bytesLess Lib.compareBytes
    rw [cb_less al bl]
    by_cases h1 : a < b
    · rw [if_pos h1, decide_eq_true h1]; rfl
    · rw [if_neg h1, decide_eq_false h1]
      by_cases h2 : b < a
      · have : (a == b) = false := by
          apply beq_eq_false_iff_ne.mpr
          intro e
          rw [UInt8.lt_iff_toNat_lt, e] at h2
          omega
        rw [if_pos h2, this]; rfl
      · have : a = b := by
          rw [UInt8.lt_iff_toNat_lt] at h1 h2
          rw [← UInt8.toNat_inj]
          omega
        rw [if_neg h2, this]
        simp

/-! ### Texts, labels -/
theorem cmpB_neg (a b : ByteArray) : cmpB b a = - cmpB a b := cb_neg _ _
theorem cmpB_zero (a b : ByteArray) : cmpB a b = 0 ↔ a = b := by
  unfold cmpB
  rw [cb_zero]
  constructor
  · intro h; exact ByteArray.ext (Array.toList_inj.mp h)
  · intro h; rw [h]
theorem cmpB_trans {a b c : ByteArray} (h : cmpB a b ≤ 0) (h2 : cmpB b c ≤ 0) : cmpB a c ≤ 0 := cb_trans _ _ _ h h2
theorem cmpB_less (a b : ByteArray) : Op.bytesLess a.toList b.toList = decide (cmpB a b < 0) := by
  unfold cmpB
  rw [Lib.toList_data, Lib.toList_data, cb_less]
theorem str_gtr (t : TypeId) (a b : ByteArray) : binOp .gtr t (.string a) (.string b) = pure (.bool (Op.bytesLess b.toList a.toList)) := by
  have h : binOp .gtr t (.string a) (.string b) = pure (.bool !(Op.bytesLess a.toList b.toList || a.toList == b.toList)) := by simp [binOp, Op.stringOp]
  rw [h]
  congr 2
  rw [cb_less, cb_less, cb_neg a.toList b.toList]
  have hz := cb_zero a.toList b.toList
  by_cases h1 : Lib.compareBytes a.toList b.toList < 0
  · rw [decide_eq_true h1, decide_eq_false (by omega)]; rfl
  · rw [decide_eq_false h1]
    by_cases h2 : Lib.compareBytes a.toList b.toList = 0
    · rw [hz.1 h2, decide_eq_false (by rw [(cb_zero _ _).2 rfl]; omega)]; simp
    · have h3 : (a.toList == b.toList) = false := beq_eq_false_iff_ne.mpr (fun e => h2 (hz.2 e))
      rw [h3, decide_eq_true (by omega)]; rfl
theorem cmpB_lt_trans {a b c : ByteArray} (h : cmpB a b < 0) (h2 : cmpB b c ≤ 0) : cmpB a c < 0 := by
  rcases Int.lt_or_le (cmpB a c) 0 with h3 | h3
  · exact h3
  · have h4 : cmpB c a ≤ 0 := by rw [cmpB_neg]; omega
    have h5 := cmpB_trans h2 h4
    rw [cmpB_neg] at h5
    omega
theorem cmpL_neg (x y : S46) : cmpL y x = - cmpL x y := by
  unfold cmpL
  rw [cmpB_neg x.f0, cmpB_neg x.f1]
  by_cases h : cmpB x.f0 y.f0 = 0
  · rw [if_pos (by omega), if_pos h]
  · rw [if_neg (by omega), if_neg h]
theorem cmpL_zero (x y : S46) : cmpL x y = 0 ↔ x = y := by
  obtain ⟨a, b⟩ := x
  obtain ⟨c, d⟩ := y
  show (if cmpB a c = 0 then cmpB b d else cmpB a c) = 0 ↔ _
  by_cases h : cmpB a c = 0
  · rw [if_pos h, cmpB_zero]
    rw [cmpB_zero] at h
    simp [h]
  · rw [if_neg h]
    constructor
    · intro h2; exact absurd h2 h
    · intro h2
      injection h2 with h3 h4
      exact absurd ((cmpB_zero _ _).2 h3) h
theorem cmpL_trans {x y z : S46} (h : cmpL x y ≤ 0) (h2 : cmpL y z ≤ 0) : cmpL x z ≤ 0 := by
  unfold cmpL at *
  by_cases a : cmpB x.f0 y.f0 = 0
  · rw [if_pos a] at h
    rw [cmpB_zero] at a
    rw [a]
    by_cases b : cmpB y.f0 z.f0 = 0
    · rw [if_pos b] at h2 ⊢
      exact cmpB_trans h h2
    · rw [if_neg b] at h2 ⊢
      exact h2
  · rw [if_neg a] at h
    have h3 : cmpB y.f0 z.f0 ≤ 0 := by
      by_cases b : cmpB y.f0 z.f0 = 0
      · omega
      · rw [if_neg b] at h2; exact h2
    have h4 := cmpB_lt_trans (by omega : cmpB x.f0 y.f0 < 0) h3
    rw [if_neg (by omega)]
    omega
end Go.Proofs.YtfbockgjhbfidaaDoor.Pr
end
