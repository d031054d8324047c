/- Proved: a span with one of a lesser unit behind it is their sum; the text of a number is parsed to it: the call of soundingslaw07.SpanSums returns true, and its input reads behind the call as it read before. Conditions: the row's own (the listed package-level variables hold what their initialisers lay). -/
import Derived.Test.YtpjbllkifjhknaaDoorSpanR
set_option linter.unusedVariables false
set_option linter.unusedSimpArgs false
namespace Go.Proofs.YtpjbllkifjhknaaDoor.spanSums
open Go.ChangeShapes Go.WideShapes Go.ChangeAt Go.RowKit
open Go.ChangeMaps (open_string shut_string)
set_option maxRecDepth 100000 in
theorem contract (H : Type) (enc : TypeId × Value → H) (W : World) (base : Nat) (args : Array Value) (ds gs : List (DataW H)) (before : List MemPlace)
    (hval : ∀ (j : Nat) t v, Tryd.f5.params[j]? = some t → args[j]? = some v → Value.okWide Tryd.prog W .any base t v)
    (hW : DataW.Whole enc Tryd.prog Tryd.f5.params.toList Rows.spanSumsSpec.vars false W args.toList ds gs before) (hL : laidMetH Tryd.prog Rows.spanSumsRow.laid W) :
    Calls Tryd.prog 5 args W fun e W' => ∃ v, e = .returned v ∧ Rows.spanSumsSpec.post enc Tryd.prog Tryd.f5 false true false false W args v W' := by
  have hA0 : Pr.LaidAll W := Pr.laidAll_of hL
  have hW' := hW
  obtain ⟨p, q, hA1, hV, rfl, hfz, hnd⟩ := hW
  have hA : DataW.TrodAll enc Tryd.prog W 0 (fun _ => true) true Tryd.f5.params.toList args.toList ds p := hA1
  rw [Tryd.params5] at hA hval
  obtain ⟨v0, vs0, d0, ds0, p0, q0, hargs, rfl, rfl, h0, r0⟩ := trodAll_cons hA
  obtain ⟨v1, vs1, d1, ds1, p1, q1, rfl, rfl, rfl, h1, r1⟩ := trodAll_cons r0
  obtain ⟨rfl, rfl, rfl⟩ := trodAll_nil r1
  obtain rfl : args = #[v0, v1] := by cases args; simp_all
  obtain ⟨rfl, rfl⟩ := trodVars_none hV
  obtain ⟨a0, rfl, rfl, rfl, w0⟩ := open_int Tryd.underlying36 (hval 0 36 v0 rfl rfl) h0
  have i0 : 0 ≤ a0 ∧ a0 ≤ 65535 := by simpa [Lit.wf, IntKind.wrap, IntKind.bits, IntKind.signed, IntKind.min, IntKind.max] using w0
  obtain ⟨a1, rfl, rfl, rfl, w1⟩ := open_int Tryd.underlying36 (hval 1 36 v1 rfl rfl) h1
  have i1 : 0 ≤ a1 ∧ a1 ≤ 65535 := by simpa [Lit.wf, IntKind.wrap, IntKind.bits, IntKind.signed, IntKind.min, IntKind.max] using w1
  refine (Pr.sums_any a0 a1 i0.1 i0.2 i1.1 i1.2 W hA0).mono fun e W' ⟨he, bel⟩ => ?_
  subst he
  exact ⟨_, rfl, _, _, _, [], _, [], hW', trodAll_mk1 (shut_bool Tryd.underlying4 _), (trodAll_cons_mk (shut_int Tryd.underlying36 w0) (trodAll_cons_mk (shut_int Tryd.underlying36 w1) trodAll_mk0)), rfl, bel.frame _, fun h => by cases h⟩
theorem laid_met (os : Os) : laidMetH Tryd.prog Rows.spanSumsRow.laid ((Pr.laidWorld os).forCall (fun _ _ => 0) ⟨#[], #[.int .u16 0, .int .u16 0], []⟩).memory := Pr.laidWorld_met os _
theorem reads (os : Os) {H : Type} (enc : TypeId × Value → H) : ∃ places, DataW.whole enc Tryd.prog ((Pr.laidWorld os).forCall (fun _ _ => 0) ⟨#[], #[.int .u16 0, .int .u16 0], []⟩).memory Tryd.f5.params.toList Rows.spanSumsSpec.vars false (#[.int .u16 0, .int .u16 0] : Array Value).toList 8 = some ([.lit (.int .u16 0), .lit (.int .u16 0)], [], places) := ⟨[], by kernel_rfl⟩
set_option maxRecDepth 100000 in
theorem lifted (os : Os) (started : os.Started) (H : Type) (enc : TypeId × Value → H) (F : Stop.Interp) :
    ReturnsInHanded {} Tryd.checked os 5 .any ((OpenSpec.ofChange Rows.spanSumsSpec).preRow enc Tryd.prog Tryd.f5 Rows.spanSumsRow.domain false Rows.spanSumsRow.laid) (((OpenSpec.ofChange Rows.spanSumsSpec).at F).post enc Tryd.prog Tryd.f5 false true false false) := by
  obtain ⟨places, hx⟩ := reads os enc
  refine returnsInHanded_of_row (C := Tryd.checked) (s := OpenSpec.ofChange Rows.spanSumsSpec) Pr.laidOwn started (by kernel_rfl) Tryd.func5
    (witness_row_at (enc := enc) (C := Tryd.checked) false (Pr.laidWorld os) #[.int .u16 0, .int .u16 0] rfl (by kernel_rfl) (by kernel_rfl) (by kernel_rfl)
      (OpenSpec.preRow_of_cond 8 hx (by kernel_rfl) (fun k hk => by cases hk) (by kernel_rfl) (laid_met os))) ?_
  intro W base args ds gs before hval hW _ _ _ hL _ _
  exact contract H enc W base args ds gs before hval hW hL
theorem said : Rows.SpanSumsSaid :=
  OpenClaim.holds_of_cond 5 Tryd.f5 rfl rfl rfl rfl rfl rfl rfl ⟨rfl, rfl, rfl, rfl, rfl⟩ rfl rfl rfl rfl rfl (by kernel_rfl) Tryd.func5 (by kernel_rfl)
    (of_decide_eq_true (by kernel_rfl)) (by unfold Func.isWrapper; first | (rw [if_pos (by decide +kernel)]; kernel_rfl) | (rw [if_neg (by decide +kernel)]; exact ⟨rfl, rfl⟩))
    (fun os started H enc _ F => by rw [OpenClaim.pre_eq_preRow]; exact lifted os started H enc F)
theorem plain (f : FuncId) (fn : Func) (hf : Tryd.pinned.checked.prog.funcNamed "soundings/soundingslaw07.SpanSums" = some f) (hfn : Tryd.pinned.checked.prog.funcs[f]? = some fn) :
    true = Tryd.pinned.checked.prog.looks [] ∧ ∀ (j : Nat) t, fn.params[j]? = some t → Tryd.pinned.checked.prog.wantsStandIn t = false := by
  obtain rfl : f = 5 := Option.some.inj ((show Tryd.prog.funcNamed "soundings/soundingslaw07.SpanSums" = some 5 by kernel_rfl).symm.trans hf) |>.symm
  obtain rfl : fn = Tryd.f5 := (Option.some.inj (Tryd.func5.symm.trans hfn)).symm
  refine ⟨by kernel_rfl, fun j t ht => ?_⟩
  rw [Tryd.params5] at ht
  have hm : t ∈ [36] := by simpa using Array.mem_of_getElem? ht
  have hall : ([36].all fun u => !Tryd.prog.wantsStandIn u) = true := by kernel_rfl
  exact (show Tryd.prog.wantsStandIn t = false by simpa using List.all_eq_true.1 hall t hm)
end Go.Proofs.YtpjbllkifjhknaaDoor.spanSums
namespace Go.Proofs.YtpjbllkifjhknaaDoor
open Go
/-- The tied card, under a short name, for the claim. -/
theorem spanSums_holds : Rows.SpanSumsCardSaid :=
  Claim7.holds_tied_plain_at .later [] _ _ _ _ spanSums.said (fun _ h => by cases h) (by kernel_rfl) (fun _ h => by cases h) spanSums_row_tie rfl ⟨rfl, rfl⟩ (by kernel_rfl) rfl spanSums.plain (by kernel_rfl)
#print axioms spanSums_holds
end Go.Proofs.YtpjbllkifjhknaaDoor
