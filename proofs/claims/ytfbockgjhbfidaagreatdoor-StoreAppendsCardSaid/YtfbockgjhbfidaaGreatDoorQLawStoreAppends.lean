/- Texts of this session, cut down to what one claim needs and joined: LawStoreAppends. -/
import Derived.Test.YtfbockgjhbfidaaGreatDoorQGR
import Derived.Test.YtfbockgjhbfidaaGreatDoorQGSt3
set_option linter.unusedVariables false
set_option linter.unusedSimpArgs false
namespace Go.Proofs.YtfbockgjhbfidaaGreatDoor.storeAppends
open Go.ChangeShapes Go.WideShapes Go.ChangeAt Go.RowKit
open Go.ChangeMaps (open_string shut_string)
set_option maxRecDepth 100000 in
theorem contract (H : Type) (enc : TypeId × Value → H) (W : World) (base : Nat) (args : Array Value) (ds gs : List (DataW H)) (before : List MemPlace)
  (hval : ∀ (j : Nat) t v, Tryz.f3.params[j]? = some t → args[j]? = some v → Value.okWide Tryz.prog W .any base t v)
  (hW : DataW.Whole enc Tryz.prog Tryz.f3.params.toList Rows.storeAppendsSpec.vars false W args.toList ds gs before) (hL : laidMetH Tryz.prog Rows.storeAppendsRow.laid W) {extra : List TypeId} (hsz : (DataW.weightsEach Tryz.prog (Tryz.f3.params.toList ++ extra) (ds ++ gs)).all (· ≤ reachBytes) = true) :
  Calls Tryz.prog 3 args W fun e W' => ∃ v, e = .returned v ∧ Rows.storeAppendsSpec.post enc Tryz.prog Tryz.f3 false true false false W args v W' := by
 have hA0 : Pr.LaidAll W := Pr.laidAll_of hL
 have hW' := hW
 obtain ⟨p, q, hA1, hV, rfl, hfz, hnd⟩ := hW
 have hA : DataW.TrodAll enc Tryz.prog W 0 (fun _ => true) true Tryz.f3.params.toList args.toList ds p := hA1
 rw [Tryz.params3] at hA hval hsz
 obtain ⟨v0, vs0, d0, ds0, p0, q0, hargs, rfl, rfl, h0, r0⟩ := trodAll_cons hA
 obtain ⟨v1, vs1, d1, ds1, p1, q1, rfl, rfl, rfl, h1, r1⟩ := trodAll_cons r0
 obtain ⟨v2, vs2, d2, ds2, p2, q2, rfl, rfl, rfl, h2, r2⟩ := trodAll_cons r1
 obtain ⟨rfl, rfl, rfl⟩ := trodAll_nil r2
 obtain rfl : args = #[v0, v1, v2] := by cases args; simp_all
 obtain ⟨rfl, rfl⟩ := trodVars_none hV
 obtain ⟨a0, len0, cap0, rfl⟩ := okWide_slice Tryz.underlying22 (hval 0 22 v0 rfl rfl)
 have k0 := h0
 have lt0 : ∀ x ∈ p0, x.block < W.heap.size := by obtain ⟨m, hm⟩ := k0; exact DataW.trod_lt m _ _ _ hm
 obtain ⟨fuel0, hf0⟩ := h0
 obtain ⟨l0, ⟨A0, c0, hcs0, hle0, hC0⟩, wf0⟩ := Pr.rdwSs2.rd enc W _ fuel0 _ _ hf0 (Pr.reach_at hsz (j := 0) rfl rfl)
 simp [Value.cells] at hcs0
 obtain ⟨rfl, rfl, rfl⟩ := hcs0
 obtain ⟨a1, len1, cap1, rfl⟩ := okWide_slice Tryz.underlying23 (hval 1 23 v1 rfl rfl)
 have k1 := h1
 have lt1 : ∀ x ∈ p1, x.block < W.heap.size := by obtain ⟨m, hm⟩ := k1; exact DataW.trod_lt m _ _ _ hm
 obtain ⟨fuel1, hf1⟩ := h1
 obtain ⟨l1, ⟨A1, c1, hcs1, hle1, hC1⟩, wf1⟩ := Pr.rdk23.rd enc W _ fuel1 _ _ hf1
 simp [Value.cells] at hcs1
 obtain ⟨rfl, rfl, rfl⟩ := hcs1
 obtain ⟨s2, t2, e2, f2, g2, w2, x2⟩ := Pr.open_point (hval 2 26 v2 rfl rfl) h2
 subst e2; subst f2; subst g2
 refine (Pr.apps_all _ _ l0 _ _ l1 s2 t2 W hA0 hC0 hle0 hC1 hle1 wf0 wf1.1 x2).mono fun e W' ⟨he, bel⟩ => ?_
 subst he
 exact ⟨_, rfl, _, _, _, [], _, [], hW', trodAll_mk1 (shut_bool Tryz.underlying4 _), (trodAll_cons_mk (Below.trod Pr.laidOut (by kernel_rfl) (of_decide_eq_true (by kernel_rfl)) k0 bel lt0) (trodAll_cons_mk (Below.trod Pr.laidOut (by kernel_rfl) (of_decide_eq_true (by kernel_rfl)) k1 bel lt1) (trodAll_cons_mk (Pr.shut_point w2 x2) trodAll_mk0))), rfl, bel.frame _, fun h => by cases h⟩
theorem laid_met (os : Os) : laidMetH Tryz.prog Rows.storeAppendsRow.laid ((Pr.laidWorld os).forCall (fun _ _ => 0) ⟨#[], #[.slice none 0 0, .slice none 0 0, .agg #[.int .i64 0, .int .u64 0]], []⟩).memory := Pr.laidWorld_met os _
set_option maxRecDepth 100000 in
theorem reads (os : Os) {H : Type} (enc : TypeId × Value → H) : ∃ places, DataW.whole enc Tryz.prog ((Pr.laidWorld os).forCall (fun _ _ => 0) ⟨#[], #[.slice none 0 0, .slice none 0 0, .agg #[.int .i64 0, .int .u64 0]], []⟩).memory Tryz.f3.params.toList Rows.storeAppendsSpec.vars false (#[.slice none 0 0, .slice none 0 0, .agg #[.int .i64 0, .int .u64 0]] : Array Value).toList 8 = some ([.nil, .nil, .agg [.lit (.int .i64 0), .lit (.int .u64 0)]], [], places) := ⟨[], by kernel_rfl⟩
set_option maxRecDepth 100000 in
theorem lifted (os : Os) (started : os.Started) (H : Type) (enc : TypeId × Value → H) (F : Stop.Interp) :
  ReturnsInHanded {} Tryz.checked os 3 .any ((OpenSpec.ofChange Rows.storeAppendsSpec).preRow enc Tryz.prog Tryz.f3 Rows.storeAppendsRow.domain false Rows.storeAppendsRow.laid) (((OpenSpec.ofChange Rows.storeAppendsSpec).at F).post enc Tryz.prog Tryz.f3 false true false false) := by
 obtain ⟨places, hx⟩ := reads os enc
 refine returnsInHanded_of_row (C := Tryz.checked) (s := OpenSpec.ofChange Rows.storeAppendsSpec) Pr.laidOwn started (by kernel_rfl) Tryz.func3
  (witness_row_at (enc := enc) (C := Tryz.checked) false (Pr.laidWorld os) #[.slice none 0 0, .slice none 0 0, .agg #[.int .i64 0, .int .u64 0]] rfl (by kernel_rfl) (by kernel_rfl) (by kernel_rfl)
   (OpenSpec.preRow_of_cond 8 hx (by kernel_rfl) (fun k hk => by cases hk) (by kernel_rfl) (laid_met os))) ?_
 intro W base args ds gs before hval hW _ _ hsz hL _ _
 exact contract H enc W base args ds gs before hval hW hL hsz
theorem said : Rows.StoreAppendsSaid :=
 OpenClaim.holds_of_cond 3 Tryz.f3 rfl rfl rfl rfl rfl rfl rfl ⟨rfl, rfl, rfl, rfl, rfl⟩ rfl rfl rfl rfl rfl (by kernel_rfl) Tryz.func3 (by kernel_rfl)
  (of_decide_eq_true (by kernel_rfl)) (by unfold Func.isWrapper; first | (rw [if_pos (by decide +kernel)]; kernel_rfl) | (rw [if_neg (by decide +kernel)]; exact ⟨rfl, rfl⟩))
  (fun os started H enc _ F => by rw [OpenClaim.pre_eq_preRow]; exact lifted os started H enc F)
theorem plain (f : FuncId) (fn : Func) (hf : Tryz.pinned.checked.prog.funcNamed "soundings/soundingslaw05.StoreAppends" = some f) (hfn : Tryz.pinned.checked.prog.funcs[f]? = some fn) :
  true = Tryz.pinned.checked.prog.looks [] ∧ ∀ (j : Nat) t, fn.params[j]? = some t → Tryz.pinned.checked.prog.wantsStandIn t = false := by
 obtain rfl : f = 3 := Option.some.inj ((show Tryz.prog.funcNamed "soundings/soundingslaw05.StoreAppends" = some 3 by kernel_rfl).symm.trans hf) |>.symm
 obtain rfl : fn = Tryz.f3 := (Option.some.inj (Tryz.func3.symm.trans hfn)).symm
 refine ⟨by kernel_rfl, fun j t ht => ?_⟩
 rw [Tryz.params3] at ht
 have hm : t ∈ [22, 23, 26] := by simpa using Array.mem_of_getElem? ht
 have hall : ([22, 23, 26].all fun u => !Tryz.prog.wantsStandIn u) = true := by kernel_rfl
 exact (show Tryz.prog.wantsStandIn t = false by simpa using List.all_eq_true.1 hall t hm)
end Go.Proofs.YtfbockgjhbfidaaGreatDoor.storeAppends
namespace Go.Proofs.YtfbockgjhbfidaaGreatDoor
open Go
/-- The tied card, under a short name, for the claim. -/
theorem storeAppends_holds : Rows.StoreAppendsCardSaid :=
 Claim7.holds_tied_plain_at .later [] _ _ _ _ storeAppends.said (fun _ h => by cases h) (by kernel_rfl) (fun _ h => by cases h) storeAppends_row_tie rfl ⟨rfl, rfl⟩ (by kernel_rfl) rfl storeAppends.plain (by kernel_rfl)
#print axioms storeAppends_holds
end Go.Proofs.YtfbockgjhbfidaaGreatDoor
