/- Texts of this session, cut down to what one claim needs and joined: LbIdx, LbDel, LbClone. -/
import Derived.Test.YtfbockgjhbfidaaGreatDoorQPr0
import Derived.WalkKit
import Derived.WalkSpells
import Derived.WalkLawsBesides
import Derived.Deep.QuietTactic
import Derived.Deep.RegionHeld3
import Derived.Deep.RegionHeldLaw
import Derived.Deep.DeepCutAuto
import Derived.BigQuiet
import Derived.RegionTactic
import Derived.BigRegion
import Derived.Outline
import Derived.Shelf.Abstract
section
set_option linter.unusedVariables false
set_option linter.unusedSimpArgs false
namespace Go.Proofs.YtfbockgjhbfidaaGreatDoor.Pr
open Go.RowKit Go.Proofs.YtfbockgjhbfidaaGreatDoorW.PrintWords Go.Proofs.YtfbockgjhbfidaaGreatDoorW.PrintLast Go.Proofs.YtfbockgjhbfidaaGreatDoorW.PrintMore

/-- The first place of which a predicate holds, from a place on. -/
def firstFrom {α : Type} (p : α → Bool) : List α → Nat → Option Nat
 | [], _ => none
 | x :: r, i => if p x = true then some i else firstFrom p r (i + 1)
def firstOf {α : Type} (p : α → Bool) (l : List α) : Int := match firstFrom p l 0 with
 | some i => i
 | none => -1

set_option maxHeartbeats 2000000 in
set_option maxRecDepth 100000 in
theorem indexFunc_Lb (p : S44 → Bool) (g : FuncId) (caps : Array Value) (B : Nat) (W w : World) (HB : Below B W w) (hBw : B ≤ w.heap.size) (A0 : Option Addr) (c0 : Nat) (l0 : List S44) (hr0 : Kd.C k44 w A0 l0.length l0) (hc0 : l0.length ≤ c0) (hb : l0.length ≤ 9223372036854775807)
  (eg : ∀ args w, (callFunc g args).run Tryz.prog w = .ok (.enter g args) w)
  (hf : ∀ (x : S44) (w1 : World), Below B W w1 → Calls Tryz.prog g (#[.agg #[.string x.f0, .string x.f1]] ++ caps) w1 fun e w' => e = .returned (.bool (p x)) ∧ Below w1.heap.size w1 w') :
  Calls Tryz.prog 59 #[.slice A0 l0.length c0, .func (.func g) #[] caps] w fun e w' => e = .returned (.int .i64 (firstOf p l0)) ∧ Below w.heap.size w w' := by
 have HR0 := Aside0.mk hr0
 have HF := Aside0.mk hf
 have HB0 := Aside0.mk HB
 have HBW := Aside0.mk hBw
 clear hr0 hf HB hBw hc0
 go_enter Tryz.func59, Tryz.ntmps59
 go_wp2
 go_loopw [5, 8] (fun v5 v8 w' => ∃ (i : Nat), v8 = .int .i64 i ∧ i ≤ l0.length ∧ Aside0 (firstFrom p (l0.drop i) i = firstFrom p l0 0) ∧ Aside0 (Below w.heap.size w w')) (fun _ v8 _ => l0.length - (intOf v8).toNat)
 case atStart => exact ⟨0, rfl, Nat.zero_le _, ⟨by simp⟩, ⟨Below.refl _ _⟩⟩
 case round =>
  obtain ⟨i, rfl, hil, HI, HB1⟩ := hrel
  by_cases hlt : i < l0.length
  ·have hC := Kd.C_below HR0.out HB1.out
   obtain ⟨ai, ei, y0, y1⟩ := at_T44 hC (i : Nat) (by omega) (by omega)
   cases ei
   obtain ⟨xi, hxi⟩ : ∃ x, x = rd_T44 l0 (i : Nat) := ⟨_, rfl⟩
   have hd : l0.drop i = xi :: l0.drop (i + 1) := by
    rw [List.drop_eq_getElem_cons hlt, hxi]; simp [rd_T44, hlt]
   have hI := HI.out
   rw [hd, firstFrom] at hI
   rw [← hxi] at y0 y1
   simp only [Int.toNat_natCast] at y0 y1
   have hI2 := Aside0.mk hI
   clear hI hxi hd hC
   have hcall := HF.out xi wr (by exact ⟨HB1.out.os.trans HB0.out.os, HB1.out.tape.trans HB0.out.tape, HB1.out.output.trans HB0.out.output, Nat.le_trans HB0.out.size HB1.out.size, fun k hk => (HB1.out.block k (Nat.lt_of_lt_of_le hk HBW.out)).trans (HB0.out.block k hk)⟩)
   cases hp : p xi with
   | true =>
    rw [hp] at hcall
    have HP := Aside0.mk hp
    clear hp
    go_wp2_with (go_at_fn g; refine hcall.mono ?_; rintro e w' ⟨rfl, hb'⟩)
    go_ret
    refine ⟨?_, below_then HB1.out HB1.out.size hb'⟩
    have h := hI2.out
    rw [if_pos HP.out] at h
    unfold firstOf
    rw [← h]
    rfl
   | false =>
    rw [hp] at hcall
    have HP := Aside0.mk hp
    clear hp
    go_wp2_with (go_at_fn g; refine hcall.mono ?_; rintro e w' ⟨rfl, hb'⟩)
    go_roundw
    case rel => exact ⟨i + 1, by go_num, by omega, ⟨by have h := hI2.out; rw [if_neg (by rw [HP.out]; exact Bool.false_ne_true)] at h; exact h⟩, ⟨below_then HB1.out HB1.out.size hb'⟩⟩
    case measure => simp [intOf]; omega
  ·have hI := Aside0.mk (show firstOf p l0 = -1 from by have h := HI.out; rw [List.drop_eq_nil_of_le (by omega)] at h; unfold firstOf; rw [← h]; rfl)
   have hge : l0.length ≤ i := by omega
   clear hlt
   go_wp2
   go_ret
   exact ⟨by rw [hI.out]; rfl, HB1.out⟩

end Go.Proofs.YtfbockgjhbfidaaGreatDoor.Pr
end

section
set_option linter.unusedVariables false
set_option linter.unusedSimpArgs false
namespace Go.Proofs.YtfbockgjhbfidaaGreatDoor.Pr
open Go.RowKit Go.Proofs.YtfbockgjhbfidaaGreatDoorW.PrintWords Go.Proofs.YtfbockgjhbfidaaGreatDoorW.PrintLast Go.Proofs.YtfbockgjhbfidaaGreatDoorW.PrintMore

/-- The head of a row stays a row where cells behind it are written. -/
theorem R_cutset {α : Type} {d : Kd α} {e n cap g o i : Nat} {W : World} {base : Nat} {ok : Nat → Prop} {xs : List α} (h : d.R e W base ok (.slice (some ⟨g, 0, none⟩) n cap) xs) (hi : i ≤ xs.length) (zs : List Value) (ho : i * d.sz ≤ o) (hz : o + zs.length ≤ cap * d.sz) :
  d.R e (W.setCells g o zs) base ok (.slice (some ⟨g, 0, none⟩) i cap) (xs.take i) := by
 obtain ⟨h0, inner, hown, hr⟩ := Kd.R_take h hi
 have hl : (xs.take i).length = i := by rw [List.length_take]; omega
 refine ⟨h0, inner, ?_, hr.imp_ (fun _ _ hp => d.M_move (fun k hk => setCells_far zs o k (fun e' => hk.2 (by rw [e']; rfl))) hp)⟩
 rw [hl] at hown ⊢
 obtain ⟨h1, h2⟩ := hown
 refine ⟨h1, ?_⟩
 rcases h2 with ⟨hv, _⟩ | ⟨g', cap', cur, hv, hb, hh, hnc, hcm, hcs, ht⟩
 ·cases hv
 ·injection hv with ha _ hc
  injection ha with ha
  injection ha with hg'
  subst hg'; subst hc
  obtain ⟨cur', hh', hs', hcur⟩ := setCells_row zs o W cur hh (by omega)
  refine .inr ⟨g, cap, cur', rfl, hb, hh', hnc, hcm, by rw [hs', hcs], ?_⟩
  rw [← ht, hcur, List.append_assoc, List.take_append_of_le_length (by rw [List.length_take, Array.length_toList]; omega), List.take_take, Nat.min_eq_left ho]

theorem below_setCells' {B : Nat} {A w : World} (h : Below B A w) {g : Nat} (hg : B ≤ g) : ∀ (zs : List Value) (o : Nat), Below B A (w.setCells g o zs) := by
 intro zs
 induction zs generalizing w with
 | nil => intro o; exact h
 | cons z r ih => intro o; exact ih (h.setCell hg z) (o + 1)

theorem firstFrom_none {α : Type} (p : α → Bool) : ∀ (l : List α) (i : Nat), firstFrom p l i = none → l.filter (fun x => !p x) = l
 | [], _, _ => rfl
 | x :: r, i, h => by
  unfold firstFrom at h
  by_cases hp : p x = true
  ·rw [if_pos hp] at h; cases h
  ·rw [if_neg hp] at h
   have hf : p x = false := by simpa using hp
   rw [List.filter_cons, hf]; simp [firstFrom_none p r (i + 1) h]
theorem firstFrom_some {α : Type} (p : α → Bool) : ∀ (l : List α) (i k : Nat), firstFrom p l i = some k → i ≤ k ∧ k - i < l.length ∧ (l.take (k - i + 1)).filter (fun x => !p x) = l.take (k - i)
 | [], _, _, h => by cases h
 | x :: r, i, k, h => by
  unfold firstFrom at h
  by_cases hp : p x = true
  ·rw [if_pos hp] at h; cases h
   refine ⟨Nat.le_refl _, by simp, by simp [hp]⟩
  ·rw [if_neg hp] at h
   obtain ⟨h1, h2, h3⟩ := firstFrom_some p r (i + 1) k h
   have hf : p x = false := by simpa using hp
   refine ⟨by omega, by simp; omega, ?_⟩
   rw [show k - i + 1 = (k - (i + 1) + 1) + 1 from by omega, show k - i = (k - (i + 1)) + 1 from by omega, List.take_succ_cons, List.take_succ_cons, List.filter_cons, hf]
   simp [h3]
theorem filter_take_succ {α : Type} (q : α → Bool) (l : List α) (j : Nat) (h : j < l.length) : (l.take (j + 1)).filter q = (l.take j).filter q ++ (if q l[j] = true then [l[j]] else []) := by
 rw [List.take_succ_eq_append_getElem h, List.filter_append]
 congr 1
 by_cases hq : q l[j] = true <;> simp [hq]
theorem take_set_same {α : Type} (l : List α) (i : Nat) (x : α) (h : i < l.length) : (l.set i x).take (i + 1) = l.take i ++ [x] := by
 rw [List.take_succ_eq_append_getElem (by simpa using h), List.take_set, List.getElem_set_self]
 congr 1
 exact List.set_eq_of_length_le (by simp; omega)
theorem drop_set_before {α : Type} (l : List α) (i j : Nat) (x : α) (h : i < j) : (l.set i x).drop j = l.drop j := List.drop_set_of_lt (by omega)

theorem clear_Lb (w : World) (g i n cap : Nat) (cur : Array Value) (hh : w.heap[g]? = some (.cells cur 44 (0, 0))) (hcs : cur.size = cap * 2) (hi : i < n) (hn : n ≤ cap) :
  ∃ zs : List Value, zs.length = (n - i) * 2 ∧ ∀ ty : TypeId, (Builtin.clear_ #[23] ty #[.slice (some ⟨g, i * 2, none⟩) (n - i) (cap - i)]).run Tryz.prog w = .ok (.tuple #[]) (w.setCells g (i * 2) zs) := by
 have hv : ∀ w, (zeroValue 44).run Tryz.prog w = .ok (.agg #[.string ⟨#[]⟩, .string ⟨#[]⟩]) w := fun w => by
  obtain ⟨i0, hi0, hz0, _⟩ := info_parts info44
  simp [zeroValue, typeInfo, hi0, hz0]
 refine ⟨(Builtin.zeroCells #[.string ⟨#[]⟩, .string ⟨#[]⟩] (n - i)).toList, by simp [Builtin.zeroCells], fun ty => ?_⟩
 have hst := run_storeCells_cells (P := Tryz.prog) g (i * 2) (Builtin.zeroCells #[.string ⟨#[]⟩, .string ⟨#[]⟩] (n - i)).toList 0 w (fun j hj => by
   rw [cell_of_row w g _ cur 44 (0, 0) hh]
   have : j < (n - i) * 2 := by simpa [Builtin.zeroCells] using hj
   simp; omega) (fun j _ => blk_frozen hh _) (by
   intro u hu
   simp [Builtin.zeroCells] at hu
   obtain ⟨a, ha, rfl⟩ := hu
   have : a % 2 = 0 ∨ a % 2 = 1 := by omega
   rcases this with h | h <;> rw [h] <;> rfl)
 simp only [Nat.add_zero] at hst
 obtain ⟨m, hm⟩ : ∃ m, n - i = m + 1 := ⟨n - i - 1, by omega⟩
 rw [hm] at hst ⊢
 simp [Builtin.clear_, run_underlying Tryz.underlying23, hv, show (Value.agg #[.string ⟨#[]⟩, .string ⟨#[]⟩]).cells = #[.string ⟨#[]⟩, .string ⟨#[]⟩] from rfl, hst]

theorem row_block {α : Type} {d : Kd α} {e n cap g : Nat} {W : World} {base : Nat} {ok : Nat → Prop} {xs : List α} (h : d.R e W base ok (.slice (some ⟨g, 0, none⟩) n cap) xs) : ∃ cur, W.heap[g]? = some (.cells cur e (0, 0)) ∧ cur.size = cap * d.sz ∧ n ≤ cap ∧ base ≤ g ∧ cap ≤ maxLen := by
 obtain ⟨_, inner, hown, _⟩ := h
 rcases hown.2 with ⟨hv, _⟩ | ⟨g', cap', cur, hv, hb, hh, hnc, hcm, hcs, ht⟩
 ·cases hv
 ·injection hv with ha hn' hc
  injection ha with ha
  injection ha with hg'
  subst hg'; subst hc; subst hn'
  exact ⟨cur, hh, hcs, hnc, hb, hcm⟩
theorem row_form {α : Type} {d : Kd α} {e : Nat} {W : World} {base : Nat} {ok : Nat → Prop} {v : Value} {xs : List α} (h : d.R e W base ok v xs) (hx : 0 < xs.length) : ∃ g cap, v = .slice (some ⟨g, 0, none⟩) xs.length cap := by
 obtain ⟨_, inner, hown, _⟩ := h
 rcases hown.2 with ⟨hv, h0⟩ | ⟨g', cap', cur, hv, _⟩
 ·omega
 ·exact ⟨g', cap', hv⟩

set_option maxHeartbeats 4000000 in
set_option maxRecDepth 100000 in
theorem deleteFunc_Lb (p : S44 → Bool) (g0 : FuncId) (caps : Array Value) (B : Nat) (W w : World) (HB : Below B W w) (hBw : B ≤ w.heap.size) (v : Value) (l0 : List S44) (HO : Kd.R k44 44 w B (fun _ => True) v l0) (hb : l0.length ≤ 8796093022208)
  (eg : ∀ args w, (callFunc g0 args).run Tryz.prog w = .ok (.enter g0 args) w)
  (hf : ∀ (x : S44) (w1 : World), Below B W w1 → Calls Tryz.prog g0 (#[.agg #[.string x.f0, .string x.f1]] ++ caps) w1 fun e w' => e = .returned (.bool (p x)) ∧ Below w1.heap.size w1 w') :
  Calls Tryz.prog 40 #[v, .func (.func g0) #[] caps] w fun e w' => ∃ v' : Value, e = .returned v' ∧ Kd.R k44 44 w' B (fun _ => True) v' (l0.filter fun x => !p x) ∧ Below B W w' := by
 obtain ⟨A, c, hv, hcl, hC⟩ := Kd.R_reads HO
 have HIDX := Aside0.mk (indexFunc_Lb p g0 caps B W w HB hBw A c l0 hC hcl (by omega) eg hf)
 rw [← hv] at HIDX
 have HF := Aside0.mk hf
 have HB0 := Aside0.mk HB
 have HBW := Aside0.mk hBw
 have HO0 := Aside0.mk HO
 cases hk : firstFrom p l0 0 with
 | none =>
  have hfo : firstOf p l0 = -1 := by unfold firstOf; rw [hk]
  have hfi := firstFrom_none p l0 0 hk
  rw [hfo] at HIDX
  have HFI := Aside0.mk hfi
  clear hk hfo hfi hf HB hBw HO hv hcl hC hb
  go_enter Tryz.func40, Tryz.ntmps40
  go_wp2_with (go_at_call 59; refine HIDX.out.mono ?_; rintro e w' ⟨rfl, hb'⟩)
  go_ret
  exact ⟨v, rfl, by rw [HFI.out]; exact Kd.R_below HO0.out hb', below_then HB0.out HBW.out hb'⟩
 | some i0 =>
  obtain ⟨_, hi0, hfs⟩ := firstFrom_some p l0 0 i0 hk
  simp only [Nat.sub_zero] at hi0 hfs
  have hfo : firstOf p l0 = (i0 : Int) := by unfold firstOf; rw [hk]
  rw [hfo] at HIDX
  obtain ⟨g, cap, rfl⟩ := row_form HO (by omega)
  obtain ⟨n, hn⟩ : ∃ n, n = l0.length := ⟨_, rfl⟩
  have HN := Aside0.mk hn
  have HFS := Aside0.mk hfs
  rw [← hn] at HIDX HO0 hb ⊢
  have hi0n : i0 < n := by omega
  have hneg : ((i0 : Int) == -1) = false := by simp
  clear hk hfo hfs hf HB hBw HO hv hcl hC hn hi0
  have w0 : IntKind.i64.wrap ((i0 : Int) + 1) = (i0 : Int) + 1 := IntWalk.i64_in _ (by omega)
  go_enter Tryz.func40, Tryz.ntmps40
  go_wp2_with (go_at_call 59; refine HIDX.out.mono ?_; rintro e w' ⟨rfl, hb'⟩)
  have HB1 := Aside0.mk (below_then HB0.out HBW.out hb')
  have HO1 := Aside0.mk (Kd.R_below HO0.out hb')
  clear hb'
  go_loopw [5, 6] (fun v5 v6 w' => ∃ (i j : Nat) (zs : List S44), v5 = .int .i64 i ∧ v6 = .int .i64 j ∧ i < j ∧ j ≤ n ∧ Aside0 (Kd.R k44 44 w' B (fun _ => True) (.slice (some ⟨g, 0, none⟩) n cap) zs) ∧ Aside0 (zs.length = n) ∧ Aside0 (zs.drop j = l0.drop j) ∧ Aside0 (zs.take i = (l0.take j).filter (fun x => !p x)) ∧ Aside0 (Below B W w')) (fun _ v6 _ => n - (intOf v6).toNat)
  case atStart => exact ⟨i0, i0 + 1, l0, rfl, by go_num, by omega, by omega, HO1, ⟨HN.out.symm⟩, ⟨rfl⟩, ⟨HFS.out.symm⟩, HB1⟩
  case round =>
   obtain ⟨i, j, zs, rfl, rfl, hij, hjn, HOz, HZ, HD, HT, HBz⟩ := hrel
   by_cases hlt : j < n
   ·obtain ⟨hz1, hz2, hC⟩ := Kd.R_reads' HOz.out
    obtain ⟨aj, ej, y0, y1⟩ := at_T44 hC (j : Nat) (by omega) (by omega)
    obtain ⟨ai, ei, u0, u1⟩ := at_T44 hC (i : Nat) (by omega) (by omega)
    cases ej
    cases ei
    obtain ⟨xj, hxj⟩ : ∃ x, x = rd_T44 zs (j : Nat) := ⟨_, rfl⟩
    obtain ⟨xi, hxi⟩ : ∃ x, x = rd_T44 zs (i : Nat) := ⟨_, rfl⟩
    have hjl : j < l0.length := by have := HN.out; omega
    have hjx : l0[j]'hjl = xj := by
     have h1 := congrArg (fun l => l[0]?) HD.out
     simp only [List.getElem?_drop, Nat.add_zero] at h1
     rw [hxj]
     have hjz : j < zs.length := by have := HZ.out; omega
     rw [List.getElem?_eq_getElem hjz, List.getElem?_eq_getElem hjl] at h1
     simp only [rd_T44, Int.toNat_natCast, List.getD_eq_getElem?_getD, List.getElem?_eq_getElem hjz, Option.getD_some]
     exact (Option.some.inj h1).symm
    have HS := filter_take_succ (fun x => !p x) l0 j hjl
    rw [hjx] at HS
    have HSS := Aside0.mk HS
    rw [← hxj] at y0 y1
    rw [← hxi] at u0 u1
    simp only [Int.toNat_natCast, add_plain] at y0 y1 u0 u1
    have HD1 : Aside0 (zs.drop (j + 1) = l0.drop (j + 1)) := ⟨by rw [← List.drop_drop, HD.out, List.drop_drop]⟩
    have bg : g < wr.heap.size := World.block_lt_of_cell? wr _ y0
    have w1 : IntKind.i64.wrap ((j : Int) + 1) = (j : Int) + 1 := IntWalk.i64_in _ (by omega)
    have w2 : IntKind.i64.wrap ((i : Int) + 1) = (i : Int) + 1 := IntWalk.i64_in _ (by omega)
    have hBwr : Aside0 (B ≤ wr.heap.size) := ⟨by obtain ⟨_, _, _, _, h, _⟩ := row_block HOz.out; omega⟩
    clear hz1 hz2 hC hxj hxi hjx HS hjl
    have hilt : i < n := by omega
    have hin : (i : Int) < (n : Int) := by omega
    cases hp : p xj with
    | true =>
     have HP := Aside0.mk hp
     clear hp
     have hcall := HF.out xj (wr.alloc (.cells #[.string xj.f0, .string xj.f1] 44)) (HBz.out.alloc hBwr.out _)
     rw [HP.out] at hcall
     go_wp2_with (go_at_fn g0; refine hcall.mono ?_; rintro e w4 ⟨rfl, hbd⟩)
     have hb4 := below_then (below_alloc (Below.refl wr.heap.size wr) (.cells #[.string xj.f0, .string xj.f1] 44)) (by simp) hbd
     go_roundw
     case rel => exact ⟨i, j + 1, zs, rfl, by go_num, by omega, by omega, ⟨Kd.R_below HOz.out hb4⟩, HZ, HD1, ⟨by rw [HT.out, HSS.out, HP.out]; simp⟩, ⟨below_then HBz.out hBwr.out hb4⟩⟩
     case measure => simp [intOf]; omega
    | false =>
     have HP := Aside0.mk hp
     clear hp
     have hcall := HF.out xj (wr.alloc (.cells #[.string xj.f0, .string xj.f1] 44)) (HBz.out.alloc hBwr.out _)
     rw [HP.out] at hcall
     go_wp2_with (first
      | (go_at_fn g0; refine hcall.mono ?_; rintro e w4 ⟨rfl, hbd⟩; have hb4 := below_then (below_alloc (Below.refl wr.heap.size wr) (.cells #[.string xj.f0, .string xj.f1] 44)) (by simp) hbd; have v0 := pw_cell_below hb4 u0; have v1 := pw_cell_below hb4 u1; have hx0 : w4.cell? ⟨wr.heap.size, 0, none⟩ = some (.string xj.f0) := pw_cell_below hbd (by go_simp); have hx1 : w4.cell? ⟨wr.heap.size, 1, none⟩ = some (.string xj.f1) := pw_cell_below hbd (by go_simp); have HO4 := Aside0.mk (Kd.R_below HOz.out hb4); have HB4 := Aside0.mk (below_then HBz.out hBwr.out hb4))
      | ((with_reducible refine gate_ (.store 44 (.tmp 33) (.tmp 32)) rfl ?_); refine Kd.R_store k44 B rfl rfl 44 (.tmp 33) (.tmp 32) rfl 44 (g := g) (n := n) (cap := cap) (o' := i * 2) (i : Int) 0 zs xj (.agg #[.string xj.f0, .string xj.f1]) [.string xj.f0, .string xj.f1] [.string xi.f0, .string xi.f1] (fun _ => True) (fun k => k ≠ g) rfl rfl rfl rfl (by kernel_rfl) (by simp [Value.oneCell']) HO4.out (by omega) hin rfl ?hcc (Nat.le_refl _) (k44_mkM _ _ _ xj) (fun k h => ⟨trivial, h⟩) HB4.out ?_; (case hcc => (intro q u hq; match q, hq with | 0, hq => (obtain rfl := Option.some.inj hq; exact v0) | 1, hq => (obtain rfl := Option.some.inj hq; exact v1) | q + 2, hq => (simp at hq))); intro w5 ho5 hb5 hg5; have HO5 := Aside0.mk ho5; have HB5 := Aside0.mk hb5; clear ho5 hb5 hg5))
     go_roundw
     case rel => exact ⟨i + 1, j + 1, zs.set i xj, by go_num, by go_num, by omega, by omega, HO5, ⟨by rw [List.length_set]; exact HZ.out⟩, ⟨by rw [drop_set_before _ _ _ _ (by omega)]; exact HD1.out⟩, ⟨by rw [take_set_same _ _ _ (by have := HZ.out; omega), HT.out, HSS.out, HP.out]; simp⟩, HB5⟩
     case measure => simp [intOf]; omega
   ·obtain rfl : j = n := by omega
    obtain ⟨cur, hh, hcs, hnc, hBg, hcm⟩ := row_block HOz.out
    obtain ⟨i1, hi1, _, hs1, _⟩ := info_parts info44
    have hcut1 := cut_from (P := Tryz.prog) 23 44 .i64 Tryz.underlying23 hi1 2 hs1 (some ⟨g, 0, none⟩) j cap (i : Int) (by omega) (by omega)
    rw [if_neg (by simp; omega)] at hcut1
    simp only [Int.toNat_natCast, Option.map_some, add_plain] at hcut1
    obtain ⟨zz, hzz, hcl⟩ := clear_Lb wr g i j cap cur hh hcs (by omega) hnc
    have HFIN := Aside0.mk (R_cutset (i := i) (o := i * 2) HOz.out (by have := HZ.out; omega) zz (Nat.le_refl _) (by rw [hzz]; show i * 2 + (j - i) * 2 ≤ cap * 2; omega))
    have hcut2 := cut_to (P := Tryz.prog) 23 44 .i64 Tryz.underlying23 hi1 (some ⟨g, 0, none⟩) j cap (i : Int) (by omega) (by omega) hnc
    simp only [Int.toNat_natCast] at hcut2
    have HBF := Aside0.mk (below_setCells' HBz.out hBg zz (i * 2))
    clear hzz hh hcs hi1 hs1 hcm hnc hBg
    go_wp2
    go_ret
    exact ⟨_, rfl, by have h := HFIN.out; rw [HT.out] at h; rw [show l0.filter (fun x => !p x) = (l0.take j).filter (fun x => !p x) from by rw [List.take_of_length_le (by have := HN.out; omega)]]; exact h, HBF.out⟩

end Go.Proofs.YtfbockgjhbfidaaGreatDoor.Pr
end

section
set_option linter.unusedVariables false
set_option linter.unusedSimpArgs false
namespace Go.Proofs.YtfbockgjhbfidaaGreatDoor.Pr
open Go.RowKit Go.Proofs.YtfbockgjhbfidaaGreatDoorW.PrintWords Go.Proofs.YtfbockgjhbfidaaGreatDoorW.PrintLast Go.Proofs.YtfbockgjhbfidaaGreatDoorW.PrintMore

theorem flat_Lb (w : World) (base : Nat) (ok : Nat → Prop) (x : S44) (cs : List Value) (h : k44.K w x cs) : k44.M w base ok x cs := by
 rw [k44_open h]
 exact k44_mkM w base ok x

set_option maxHeartbeats 1000000 in
set_option maxRecDepth 100000 in
theorem clone_Lb (A0 : Option Addr) (c0 : Nat) (l0 : List S44) (w : World) (hr0 : Kd.C k44 w A0 l0.length l0) (hc0 : l0.length ≤ c0) (hb : l0.length * 32 ≤ 140737488355328) :
  Calls Tryz.prog 36 #[.slice A0 l0.length c0] w fun e w' => ∃ v : Value, e = .returned v ∧ Kd.R k44 44 w' w.heap.size (fun _ => True) v l0 ∧ Below w.heap.size w w' := by
 have HR0 := Aside0.mk hr0
 have HB := Aside0.mk (Below.refl w.heap.size w)
 have q22 : ∀ (w : World) (a : Option Addr) (n c n' c' : Nat), (binOp .eql 23 (.slice a n c) (.slice none n' c')).run Tryz.prog w = .ok (.bool a.isNone) w := fun w a n c n' c' => Lib.run_eql_slice_nil w _ _ a n c n' c' Tryz.underlying23
 cases A0 with
 | none =>
  have hl : l0 = [] := by
   rcases Nat.eq_zero_or_pos l0.length with h | h
   ·exact List.eq_nil_of_length_eq_zero h
   ·obtain ⟨ad, e, _⟩ := at_T44 hr0 0 (by omega) (by omega)
    cases e
  subst hl
  clear hr0 hc0 hb
  go_enter Tryz.func36, Tryz.ntmps36
  go_wp2
  go_ret
  exact ⟨_, rfl, Kd.R_nil _ _ _ _ _, HB.out⟩
 | some ad =>
  clear hr0 hc0
  go_enter Tryz.func36, Tryz.ntmps36
  go_wp2_with (first
   | ((with_reducible refine gate_dst (N := 5) rfl ?_); refine Kd.R_lit k44 _ 44 ?hg (N := 5) ?hd (xs := ([] : List S44)) (inner := []) (ok := fun _ => True) (okp := fun _ => True) ?hr ?hp (fun _ hk => hk) trivial (Below.refl _ _) (Nat.le_refl _) (by simp) ?_; (case hd => rfl); (case hg => rfl); (case hr => first | (go_simp; done) | (go_simp; rfl)); (case hp => exact (Reps.none _ _)); intro v5 w5 ho5 hb5 hg_ hnew_; clear hg_ hnew_; have HO5 := Aside0.mk ho5; have HB5 := Aside0.mk hb5; clear ho5 hb5)
   | ((with_reducible refine gate_builtin (b := .append) (xs := #[.tmp 5, .tmp 6]) rfl ?_); at_builtin; refine Kd.R_append_rows k44 (w0 := w) w.heap.size rfl (.tmp 5) (.tmp 6) 23 44 _ 32 rfl Tryz.underlying23 info44 rfl (by decide) (by omega) v5 [] l0 (some ad) l0.length c0 (fun _ => True) (fun k => some k ≠ v5.ownBlock) rfl rfl HO5.out (Kd.C_below HR0.out HB5.out) (fun x cs h => flat_Lb _ _ _ x cs h) (fun k h => ⟨trivial, h⟩) (fun _ _ => trivial) HB5.out HB5.out.size (by simpa using hb) ?_; intro v6 w6 ho6 hb6 hg_ hnew_; clear hg_ hnew_; have HO6 := Aside0.mk ho6; have HB6 := Aside0.mk hb6; clear ho6 hb6))
  go_ret
  exact ⟨v6, rfl, HO6.out, HB6.out⟩

end Go.Proofs.YtfbockgjhbfidaaGreatDoor.Pr
end
