/- Texts of this session, cut down to what one claim needs and joined: LawStoreAny. -/
import Derived.Test.YtfbockgjhbfidaaDoorYGR
import Derived.Test.YtfbockgjhbfidaaDoorYStR
import Derived.Test.YtfbockgjhbfidaaDoorYStAnyL
set_option linter.unusedVariables false
set_option linter.unusedSimpArgs false
namespace Go.Proofs.YtfbockgjhbfidaaDoor.storeAny
open Go.ChangeShapes Go.WideShapes Go.ChangeAt Go.RowKit
open Go.ChangeMaps (open_string shut_string)
set_option maxRecDepth 100000 in
theorem contract (H : Type) (enc : TypeId × Value → H) (W : World) (base : Nat) (args : Array Value) (ds gs : List (DataW H)) (before : List MemPlace)
    (hval : ∀ (j : Nat) t v, Tryd.f8.params[j]? = some t → args[j]? = some v → Value.okWide Tryd.prog W .any base t v)
    (hW : DataW.Whole enc Tryd.prog Tryd.f8.params.toList Rows.storeAnySpec.vars false W args.toList ds gs before) (hL : laidMetH Tryd.prog Rows.storeAnyRow.laid W) {extra : List TypeId} (hsz : (DataW.weightsEach Tryd.prog (Tryd.f8.params.toList ++ extra) (ds ++ gs)).all (· ≤ reachBytes) = true) :
    Calls Tryd.prog 8 args W fun e W' => ∃ v, e = .returned v ∧ Rows.storeAnySpec.post enc Tryd.prog Tryd.f8 false true false false W args v W' := by
  have hA0 : Pr.LaidAll W := Pr.laidAll_of hL
  have hW' := hW
  obtain ⟨p, q, hA1, hV, rfl, hfz, hnd⟩ := hW
  have hA : DataW.TrodAll enc Tryd.prog W 0 (fun _ => true) true Tryd.f8.params.toList args.toList ds p := hA1
  rw [Tryd.params8] at hA hval hsz
  obtain ⟨v0, vs0, d0, ds0, p0, q0, hargs, rfl, rfl, h0, r0⟩ := trodAll_cons hA
  obtain ⟨v1, vs1, d1, ds1, p1, q1, rfl, rfl, rfl, h1, r1⟩ := trodAll_cons r0
  obtain ⟨v2, vs2, d2, ds2, p2, q2, rfl, rfl, rfl, h2, r2⟩ := trodAll_cons r1
  obtain ⟨v3, vs3, d3, ds3, p3, q3, rfl, rfl, rfl, h3, r3⟩ := trodAll_cons r2
  obtain ⟨v4, vs4, d4, ds4, p4, q4, rfl, rfl, rfl, h4, r4⟩ := trodAll_cons r3
  obtain ⟨rfl, rfl, rfl⟩ := trodAll_nil r4
  obtain rfl : args = #[v0, v1, v2, v3, v4] := by cases args; simp_all
  obtain ⟨rfl, rfl⟩ := trodVars_none hV
  obtain ⟨a0, len0, cap0, rfl⟩ := okWide_slice Tryd.underlying53 (hval 0 53 v0 rfl rfl)
  have k0 := h0
  have lt0 : ∀ x ∈ p0, x.block < W.heap.size := by obtain ⟨m, hm⟩ := k0; exact DataW.trod_lt m _ _ _ hm
  obtain ⟨fuel0, hf0⟩ := h0
  obtain ⟨l0, ⟨A0, c0, hcs0, hle0, hC0⟩, wf0⟩ := Pr.rdwSs.rd enc W _ fuel0 _ _ hf0 (Pr.reach_at hsz (j := 0) rfl rfl)
  simp [Value.cells] at hcs0
  obtain ⟨rfl, rfl, rfl⟩ := hcs0
  obtain ⟨a1, len1, cap1, rfl⟩ := okWide_slice Tryd.underlying36 (hval 1 36 v1 rfl rfl)
  have k1 := h1
  have lt1 : ∀ x ∈ p1, x.block < W.heap.size := by obtain ⟨m, hm⟩ := k1; exact DataW.trod_lt m _ _ _ hm
  obtain ⟨fuel1, hf1⟩ := h1
  obtain ⟨l1, ⟨A1, c1, hcs1, hle1, hC1⟩, wf1⟩ := Pr.rdk36.rd enc W _ fuel1 _ _ hf1
  simp [Value.cells] at hcs1
  obtain ⟨rfl, rfl, rfl⟩ := hcs1
  obtain ⟨s2, t2, e2, f2, g2, w2, x2⟩ := Pr.open_point (hval 2 56 v2 rfl rfl) h2
  subst e2; subst f2; subst g2
  obtain ⟨a3, len3, cap3, rfl⟩ := okWide_slice Tryd.underlying36 (hval 3 36 v3 rfl rfl)
  have k3 := h3
  have lt3 : ∀ x ∈ p3, x.block < W.heap.size := by obtain ⟨m, hm⟩ := k3; exact DataW.trod_lt m _ _ _ hm
  obtain ⟨fuel3, hf3⟩ := h3
  obtain ⟨l3, ⟨A3, c3, hcs3, hle3, hC3⟩, wf3⟩ := Pr.rdk36.rd enc W _ fuel3 _ _ hf3
  simp [Value.cells] at hcs3
  obtain ⟨rfl, rfl, rfl⟩ := hcs3
  obtain ⟨s4, t4, e4, f4, g4, w4, x4⟩ := Pr.open_point (hval 4 56 v4 rfl rfl) h4
  subst e4; subst f4; subst g4
  refine (Pr.any_all _ _ l0 _ _ l1 s2 t2 _ _ l3 s4 t4 W hA0 hC0 hle0 hC1 hle1 hC3 hle3 wf0 wf1.1 wf3.1).mono fun e W' ⟨he, bel⟩ => ?_
  subst he
  exact ⟨_, rfl, _, _, _, [], _, [], hW', trodAll_mk1 (shut_bool Tryd.underlying4 _), (trodAll_cons_mk (Below.trod Pr.laidOut (by kernel_rfl) (of_decide_eq_true (by kernel_rfl)) k0 bel lt0) (trodAll_cons_mk (Below.trod Pr.laidOut (by kernel_rfl) (of_decide_eq_true (by kernel_rfl)) k1 bel lt1) (trodAll_cons_mk (Pr.shut_point w2 x2) (trodAll_cons_mk (Below.trod Pr.laidOut (by kernel_rfl) (of_decide_eq_true (by kernel_rfl)) k3 bel lt3) (trodAll_cons_mk (Pr.shut_point w4 x4) trodAll_mk0))))), rfl, bel.frame _, fun h => by cases h⟩
theorem laid_met (os : Os) : laidMetH Tryd.prog Rows.storeAnyRow.laid ((Pr.laidWorld os).forCall (fun _ _ => 0) ⟨#[], #[.slice none 0 0, .slice none 0 0, .agg #[.int .i64 0, .int .u64 0], .slice none 0 0, .agg #[.int .i64 0, .int .u64 0]], []⟩).memory := Pr.laidWorld_met os _
set_option maxRecDepth 100000 in
theorem reads (os : Os) {H : Type} (enc : TypeId × Value → H) : ∃ places, DataW.whole enc Tryd.prog ((Pr.laidWorld os).forCall (fun _ _ => 0) ⟨#[], #[.slice none 0 0, .slice none 0 0, .agg #[.int .i64 0, .int .u64 0], .slice none 0 0, .agg #[.int .i64 0, .int .u64 0]], []⟩).memory Tryd.f8.params.toList Rows.storeAnySpec.vars false (#[.slice none 0 0, .slice none 0 0, .agg #[.int .i64 0, .int .u64 0], .slice none 0 0, .agg #[.int .i64 0, .int .u64 0]] : Array Value).toList 8 = some ([.nil, .nil, .agg [.lit (.int .i64 0), .lit (.int .u64 0)], .nil, .agg [.lit (.int .i64 0), .lit (.int .u64 0)]], [], places) := ⟨[], by kernel_rfl⟩
set_option maxRecDepth 100000 in
theorem lifted (os : Os) (started : os.Started) (H : Type) (enc : TypeId × Value → H) (F : Stop.Interp) :
    ReturnsInHanded {} Tryd.checked os 8 .any ((OpenSpec.ofChange Rows.storeAnySpec).preRow enc Tryd.prog Tryd.f8 Rows.storeAnyRow.domain false Rows.storeAnyRow.laid) (((OpenSpec.ofChange Rows.storeAnySpec).at F).post enc Tryd.prog Tryd.f8 false true false false) := by
  obtain ⟨places, hx⟩ := reads os enc
  refine returnsInHanded_of_row (C := Tryd.checked) (s := OpenSpec.ofChange Rows.storeAnySpec) Pr.laidOwn started (by kernel_rfl) Tryd.func8
    (witness_row_at (enc := enc) (C := Tryd.checked) false (Pr.laidWorld os) #[.slice none 0 0, .slice none 0 0, .agg #[.int .i64 0, .int .u64 0], .slice none 0 0, .agg #[.int .i64 0, .int .u64 0]] rfl (by kernel_rfl) (by kernel_rfl) (by kernel_rfl)
      (OpenSpec.preRow_of_cond 8 hx (by kernel_rfl) (fun k hk => by cases hk) (by kernel_rfl) (laid_met os))) ?_
  intro W base args ds gs before hval hW _ _ hsz hL _ _
  exact contract H enc W base args ds gs before hval hW hL hsz
theorem said : Rows.StoreAnySaid :=
  OpenClaim.holds_of_cond 8 Tryd.f8 rfl rfl rfl rfl rfl rfl rfl ⟨rfl, rfl, rfl, rfl, rfl⟩ rfl rfl rfl rfl rfl (by kernel_rfl) Tryd.func8 (by kernel_rfl)
    (of_decide_eq_true (by kernel_rfl)) (by unfold Func.isWrapper; first | (rw [if_pos (by decide +kernel)]; kernel_rfl) | (rw [if_neg (by decide +kernel)]; exact ⟨rfl, rfl⟩))
    (fun os started H enc _ F => by rw [OpenClaim.pre_eq_preRow]; exact lifted os started H enc F)
theorem plain (f : FuncId) (fn : Func) (hf : Tryd.pinned.checked.prog.funcNamed "soundings/soundingslaw05.StoreAny" = some f) (hfn : Tryd.pinned.checked.prog.funcs[f]? = some fn) :
    true = Tryd.pinned.checked.prog.looks [] ∧ ∀ (j : Nat) t, fn.params[j]? = some t → Tryd.pinned.checked.prog.wantsStandIn t = false := by
  obtain rfl : f = 8 := Option.some.inj ((show Tryd.prog.funcNamed "soundings/soundingslaw05.StoreAny" = some 8 by kernel_rfl).symm.trans hf) |>.symm
  obtain rfl : fn = Tryd.f8 := (Option.some.inj (Tryd.func8.symm.trans hfn)).symm
  refine ⟨by kernel_rfl, fun j t ht => ?_⟩
  rw [Tryd.params8] at ht
  have hm : t ∈ [53, 36, 56, 36, 56] := by simpa using Array.mem_of_getElem? ht
  have hall : ([53, 36, 56, 36, 56].all fun u => !Tryd.prog.wantsStandIn u) = true := by kernel_rfl
  exact (show Tryd.prog.wantsStandIn t = false by simpa using List.all_eq_true.1 hall t hm)
end Go.Proofs.YtfbockgjhbfidaaDoor.storeAny
namespace Go.Proofs.YtfbockgjhbfidaaDoor
open Go
/-- The tied card, under a short name, for the claim. -/
theorem storeAny_holds : Rows.StoreAnyCardSaid :=
  Claim7.holds_tied_plain_at .later [] _ _ _ _ storeAny.said (fun _ h => by cases h) (by kernel_rfl) (fun _ h => by cases h) storeAny_row_tie rfl ⟨rfl, rfl⟩ (by kernel_rfl) rfl storeAny.plain (by kernel_rfl)
#print axioms storeAny_holds
end Go.Proofs.YtfbockgjhbfidaaDoor
