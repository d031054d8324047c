/- Texts of this session, cut down to what one claim needs and joined: PrValueSame, PrSoundingsref04Norm, FfCmp, FfLaw, FfR, PrStrconvUnmin, FfPf, FfExact. -/
import Derived.Test.YtjleceekccehoaaGreatDoorVGJ0
import Derived.Test.YtjleceekccehoaaGreatDoorVGFk
import Derived.Test.YtjleceekccehoaaGreatDoorVGJ2
import Derived.Test.YtjleceekccehoaaGreatDoorVGJ3
import Derived.WalkLawsBesides
import Derived.Test.YtjleceekccehoaaGreatDoorVGAs
import Derived.Test.YtjleceekccehoaaGreatDoorCards
import Derived.Test.YtjleceekccehoaaGreatDoorTie
import Derived.WalkKit
import Derived.ProofKit
import Derived.OpenShut
import Derived.LaidSub
import Derived.LaidHandle
import Derived.Deep.DeepHandedRow
import Derived.Lib.LaidTab
import Derived.Lib.LaidU8
import Derived.Lib.ItoaNum
import Derived.ChangeSlices
import Derived.SevenTiedAt
import Derived.ShutString
import Derived.Lay
section
-- Written by a program of this session (wip/hook.py) out of the translation. Not trusted: Lean checks it.
namespace Go.Proofs.YtjleceekccehoaaGreatDoor.Pr
open Go.RowKit Go.Proofs.YtjleceekccehoaaGreatDoorW.PrintWords Go.Proofs.YtjleceekccehoaaGreatDoorW.PrintLast Go.Proofs.YtjleceekccehoaaGreatDoorW.PrintMore
attribute [local go_sem] max2_int min2_int max_two min_two max_three min_three max_four min_four   -- for this text's walks alone
set_option linter.unusedVariables false
set_option linter.unusedSimpArgs false

/-! ### value_Same: function 12 -/
def value_Same.f (a0 : Int) (a1 : Int) : Option (Bool) := (value_Norm.f a0).bind fun t293 => ((value_Norm.f a1).bind fun t294 => (some (t293 == t294)))
set_option maxHeartbeats 8000000 in
set_option maxRecDepth 100000 in
theorem value_Same.calls (a0 : Int) (a1 : Int) (r : Bool) (w : World) (h : value_Same.f a0 a1 = some r) :
  Calls Tryz.prog 12 #[.int .u64 a0, .int .u64 a1] w fun e w' => e = .returned (.bool r) ∧ Drawn0 w w' := by
 have H : ((value_Norm.f a0).bind fun t293 => ((value_Norm.f a1).bind fun t294 => (some (t293 == t294)))) = some r := h
 clear h
 replace H := Option.bind_eq_some_iff.mp H
 obtain ⟨t293, A30, H⟩ := H
 replace H : ((value_Norm.f a1).bind fun t294 => (some (t293 == t294))) = some r := H
 have A3 := Aside0.mk A30
 clear A30
 replace H := Option.bind_eq_some_iff.mp H
 obtain ⟨t294, A40, H⟩ := H
 replace H : (some (t293 == t294)) = some r := H
 have A4 := Aside0.mk A40
 clear A40
 obtain rfl := Option.some.inj H
 go_enter Tryz.func12, Tryz.ntmps12
 go_wp2_with (first | ((with_reducible refine gate_callee (f := 10) rfl ?_); refine goesL_ (some 6) rfl rfl Tryz.func10 (by kernel_rfl) rfl #[.int .u64 a0] rfl (by (try simp only [List.map_toArray, List.map_cons, List.map_nil]); first | done | rfl | (simp only [List.length_drop, List.length_take]; rfl)) ?_; (with_reducible refine (value_Norm.calls a0 t293 _ A3.out).mono ?_); rintro e w' ⟨rfl, ⟨nd, rfl⟩⟩; refine ⟨_, rfl, ?_⟩) | ((with_reducible refine gate_callee (f := 10) rfl ?_); refine goesL_ (some 8) rfl rfl Tryz.func10 (by kernel_rfl) rfl #[.int .u64 a1] rfl (by (try simp only [List.map_toArray, List.map_cons, List.map_nil]); first | done | rfl | (simp only [List.length_drop, List.length_take]; rfl)) ?_; (with_reducible refine (value_Norm.calls a1 t294 _ A4.out).mono ?_); rintro e w' ⟨rfl, ⟨nd, rfl⟩⟩; refine ⟨_, rfl, ?_⟩))
 go_ret
 exact ⟨by first | rfl | (simp; done) | (simp [*]; done), by repeat (first | exact Drawn0.refl _ | apply Drawn0.step)⟩

end Go.Proofs.YtjleceekccehoaaGreatDoor.Pr
end

section
-- Written by a program of this session (wip/hook.py) out of the translation. Not trusted: Lean checks it.
namespace Go.Proofs.YtjleceekccehoaaGreatDoor.Pr
open Go.RowKit Go.Proofs.YtjleceekccehoaaGreatDoorW.PrintWords Go.Proofs.YtjleceekccehoaaGreatDoorW.PrintLast Go.Proofs.YtjleceekccehoaaGreatDoorW.PrintMore
attribute [local go_sem] max2_int min2_int max_two min_two max_three min_three max_four min_four   -- for this text's walks alone
set_option linter.unusedVariables false
set_option linter.unusedSimpArgs false

/-! ### soundingsref04_Norm: function 11 -/
def soundingsref04_Norm.f (a0 : Int) : Option (Int) := (soundingsref04_IsNone.f a0).bind fun t292 => (if t292 = true then (if a0 = 9218868437227405314 then (some a0) else (some 9221120237041090561)) else (some a0))
set_option maxHeartbeats 8000000 in
set_option maxRecDepth 100000 in
theorem soundingsref04_Norm.calls (a0 : Int) (r : Int) (w : World) (h : soundingsref04_Norm.f a0 = some r) :
  Calls Tryz.prog 11 #[.int .u64 a0] w fun e w' => e = .returned (.int .u64 r) ∧ Drawn0 w w' := by
 have H : ((soundingsref04_IsNone.f a0).bind fun t292 => (if t292 = true then (if a0 = 9218868437227405314 then (some a0) else (some 9221120237041090561)) else (some a0))) = some r := h
 clear h
 replace H := Option.bind_eq_some_iff.mp H
 obtain ⟨t292, A20, H⟩ := H
 replace H : (if t292 = true then (if a0 = 9218868437227405314 then (some a0) else (some 9221120237041090561)) else (some a0)) = some r := H
 have A2 := Aside0.mk A20
 clear A20
 by_cases c3 : t292 = true
 ·subst c3
  have H1 : (if a0 = 9218868437227405314 then (some a0) else (some 9221120237041090561)) = some r := by rw [if_pos rfl] at H; exact H
  clear H
  have H := H1
  clear H1
  by_cases c4 : a0 = 9218868437227405314
  ·rw [if_pos c4] at H
   have c4b0 : (a0 == 9218868437227405314) = true := beq_iff_eq.mpr c4
   have c4b1 : (a0 != 9218868437227405314) = false := bne_eq_false_iff_eq.mpr c4
   clear c4
   obtain rfl := Option.some.inj H
   go_enter Tryz.func11, Tryz.ntmps11
   go_wp2_with (first | ((with_reducible refine gate_callee (f := 25) rfl ?_); refine goesL_ (some 4) rfl rfl Tryz.func25 (by kernel_rfl) rfl #[.int .u64 a0] rfl (by (try simp only [List.map_toArray, List.map_cons, List.map_nil]); first | done | rfl | (simp only [List.length_drop, List.length_take]; rfl)) ?_; (with_reducible refine (soundingsref04_IsNone.calls a0 true _ A2.out).mono ?_); rintro e w' ⟨rfl, ⟨nd, rfl⟩⟩; refine ⟨_, rfl, ?_⟩))
   go_ret
   exact ⟨by first | rfl | (simp; done) | (simp [*]; done), by repeat (first | exact Drawn0.refl _ | apply Drawn0.step)⟩
  ·rw [if_neg c4] at H
   have c4b0 : (a0 == 9218868437227405314) = false := beq_eq_false_iff_ne.mpr c4
   have c4b1 : (a0 != 9218868437227405314) = true := bne_iff_ne.mpr c4
   obtain rfl := Option.some.inj H
   go_enter Tryz.func11, Tryz.ntmps11
   go_wp2_with (first | ((with_reducible refine gate_callee (f := 25) rfl ?_); refine goesL_ (some 4) rfl rfl Tryz.func25 (by kernel_rfl) rfl #[.int .u64 a0] rfl (by (try simp only [List.map_toArray, List.map_cons, List.map_nil]); first | done | rfl | (simp only [List.length_drop, List.length_take]; rfl)) ?_; (with_reducible refine (soundingsref04_IsNone.calls a0 true _ A2.out).mono ?_); rintro e w' ⟨rfl, ⟨nd, rfl⟩⟩; refine ⟨_, rfl, ?_⟩))
   go_ret
   exact ⟨by first | rfl | (simp; done) | (simp [*]; done), by repeat (first | exact Drawn0.refl _ | apply Drawn0.step)⟩
 ·replace c3 := Bool.eq_false_iff.mpr c3
  subst c3
  have H1 : (some a0) = some r := by rw [if_neg (show ¬ (false = true) by decide)] at H; exact H
  clear H
  have H := H1
  clear H1
  obtain rfl := Option.some.inj H
  go_enter Tryz.func11, Tryz.ntmps11
  go_wp2_with (first | ((with_reducible refine gate_callee (f := 25) rfl ?_); refine goesL_ (some 4) rfl rfl Tryz.func25 (by kernel_rfl) rfl #[.int .u64 a0] rfl (by (try simp only [List.map_toArray, List.map_cons, List.map_nil]); first | done | rfl | (simp only [List.length_drop, List.length_take]; rfl)) ?_; (with_reducible refine (soundingsref04_IsNone.calls a0 false _ A2.out).mono ?_); rintro e w' ⟨rfl, ⟨nd, rfl⟩⟩; refine ⟨_, rfl, ?_⟩))
  go_ret
  exact ⟨by first | rfl | (simp; done) | (simp [*]; done), by repeat (first | exact Drawn0.refl _ | apply Drawn0.step)⟩

end Go.Proofs.YtjleceekccehoaaGreatDoor.Pr
end

section
set_option linter.unusedVariables false
set_option linter.unusedSimpArgs false
namespace Go.Proofs.YtjleceekccehoaaGreatDoor.Pr
open Go.RowKit Go.Proofs.Fl Go.Proofs.YtjleceekccehoaaGreatDoorW.PrintWords Go.Proofs.YtjleceekccehoaaGreatDoorW.PrintLast Go.Proofs.YtjleceekccehoaaGreatDoorW.PrintMore
attribute [local go_sem] frombits_run

end Go.Proofs.YtjleceekccehoaaGreatDoor.Pr
end

section
set_option linter.unusedVariables false
set_option linter.unusedSimpArgs false
namespace Go.Proofs.YtjleceekccehoaaGreatDoor.Pr
open Go.RowKit Go.Proofs.Fl Go.Proofs.YtjleceekccehoaaGreatDoorW.PrintWords Go.Proofs.YtjleceekccehoaaGreatDoorW.PrintLast Go.Proofs.YtjleceekccehoaaGreatDoorW.PrintMore

/-- What the rows' lists give. -/
structure LaidA (w : World) : Prop where
 e : LaidE w
 f : LaidF w
 g : LaidG w
theorem LaidA.below {w w' : World} (h : LaidA w) (hb : Below w.heap.size w w') : LaidA w' := ⟨h.e.below hb, h.f.below hb, h.g.below hb⟩
end Go.Proofs.YtjleceekccehoaaGreatDoor.Pr
end

section
set_option linter.unusedVariables false
set_option linter.unusedSimpArgs false
namespace Go.Proofs.YtjleceekccehoaaGreatDoor.Pr
open Go.ChangeShapes Go.WideShapes Go.ChangeAt Go.RowKit

theorem laidOwn : ownKnob Tryz.prog.godebug = none := by kernel_rfl
/-- The rows' list. -/
def laidL : List (String × DataW Unit) := Rows.valueBitsRow.laid
theorem gErr : Tryz.prog.globalNamed "errors.errorType" = some 1 := by kernel_rfl
theorem gPow : Tryz.prog.globalNamed "internal/strconv.uint64pow10" = some 9 := by kernel_rfl
theorem gTab : Tryz.prog.globalNamed "internal/strconv.pow10Tab" = some 14 := by kernel_rfl
theorem gOpt : Tryz.prog.globalNamed "internal/strconv.optimize" = some 2 := by kernel_rfl
theorem gInfo : Tryz.prog.globalNamed "internal/strconv.float64info" = some 13 := by kernel_rfl
theorem gFl : Tryz.prog.globalNamed "internal/strconv.float64pow10" = some 18 := by kernel_rfl
theorem tTab : (Tryz.prog.globals[14]?).map (·.type) = some 234 := by kernel_rfl
theorem tOpt : (Tryz.prog.globals[2]?).map (·.type) = some 4 := by kernel_rfl
theorem tInfo : (Tryz.prog.globals[13]?).map (·.type) = some 214 := by kernel_rfl
theorem tFl : (Tryz.prog.globals[18]?).map (·.type) = some 258 := by kernel_rfl
theorem rtHandle : (Tryz.prog.cutTypes.find? (·.1 == "internal/reflectlite.rtype")).map (·.2) = some 110 := by kernel_rfl
theorem handleFilter : (laidL.filter fun x => x.2.handleName?.isSome) = [("errors.errorType", Rows.laid_errors_errorType)] := by kernel_rfl
theorem powFilter : ((laidL.filter fun x => x.2.handleName?.isNone).filter fun x => x.1 == "internal/strconv.uint64pow10") = [("internal/strconv.uint64pow10", Lib.tabData .u64 Lib.pow10Tab)] := by kernel_rfl
theorem tabFilter : ((laidL.filter fun x => x.2.handleName?.isNone).filter fun x => x.1 == "internal/strconv.pow10Tab") = [("internal/strconv.pow10Tab", Go.Pinned.pow10Tab)] := by kernel_rfl
theorem optFilter : ((laidL.filter fun x => x.2.handleName?.isNone).filter fun x => x.1 == "internal/strconv.optimize") = [("internal/strconv.optimize", Rows.laid_internal_strconv_optimize)] := by kernel_rfl
theorem infoFilter : ((laidL.filter fun x => x.2.handleName?.isNone).filter fun x => x.1 == "internal/strconv.float64info") = [("internal/strconv.float64info", Rows.laid_internal_strconv_float64info)] := by kernel_rfl
theorem flFilter : ((laidL.filter fun x => x.2.handleName?.isNone).filter fun x => x.1 == "internal/strconv.float64pow10") = [("internal/strconv.float64pow10", Rows.laid_internal_strconv_float64pow10)] := by kernel_rfl
theorem errRows : ((List.range 394).filter fun t => Tryz.prog.rowNamed t [101, 114, 114, 111, 114]) = [31] := by kernel_rfl
theorem typesSize : decide (Tryz.prog.types.size ≤ 394) = true := by kernel_rfl
theorem errHandle : typeHandle Tryz.prog 31 = .pointer (some ⟨22, 31, none⟩) := by kernel_rfl

theorem laidE_of {W : World} (h : laidMetH Tryz.prog laidL W) : LaidE W := by
 have h2 := (laidMetH_iff.1 h).2
 rw [handleFilter] at h2
 obtain ⟨name, u, ty, e1, e2, e3, e4, e5⟩ := h2 _ (List.mem_singleton.2 rfl)
 have en : name = [101, 114, 114, 111, 114] := (Option.some.inj e1).symm
 subst en
 obtain rfl := Option.some.inj (rtHandle.symm.trans e2)
 have hm : ty ∈ (List.range 394).filter fun t => Tryz.prog.rowNamed t [101, 114, 114, 111, 114] := List.mem_filter.2 ⟨List.mem_range.2 (Nat.lt_of_lt_of_le e3 (of_decide_eq_true typesSize)), e4⟩
 rw [errRows] at hm
 obtain rfl := List.mem_singleton.1 hm
 rw [errHandle] at e5
 simpa [LaidE] using World.var?_cell gErr e5 0
theorem pow_of {W : World} (h : laidMetH Tryz.prog laidL W) : ∀ i, i < 20 → W.cell? ⟨9, i, none⟩ = some (.int .u64 (p10 i)) := by
 have h2 := (laidMetH_iff.1 h).1.filter fun x => x.1 == "internal/strconv.uint64pow10"
 rw [powFilter] at h2
 have h3 := Lib.tabIs_of_head (rest := []) gPow (t := 195) (n := 20) (by kernel_rfl) Tryz.underlying195 Tryz.underlying22 (by kernel_rfl) (by kernel_rfl) h2
 intro i hi
 have h4 := h3.cell gPow i (by simp [Lib.pow10Tab]; omega)
 rw [h4]
 simp [Lib.pow10Tab, List.getD, hi, p10]
theorem cPm : Tryz.prog.cellsOf 233 = 2 := by kernel_rfl
theorem cU64 : Tryz.prog.cellsOf 22 = 1 := by kernel_rfl
theorem rowsLen : Go.Pinned.pow10Rows.length = 696 := by kernel_rfl
theorem tab_of {W : World} (h : laidMetH Tryz.prog laidL W) (i : Nat) (hi : i < 696) :
  W.cell? ⟨14, i * 2, none⟩ = some (.int .u64 (hiT i)) ∧ W.cell? ⟨14, i * 2 + 1, none⟩ = some (.int .u64 (loT i)) := by
 have h2 := (laidMetH_iff.1 h).1.filter fun x => x.1 == "internal/strconv.pow10Tab"
 rw [tabFilter] at h2
 obtain ⟨ps, ⟨g, t, cs, fuel, p, q, hg, ht, hv, hd, _, _⟩, _⟩ := h2
 obtain rfl := Option.some.inj (gTab.symm.trans hg)
 obtain rfl := Option.some.inj (tTab.symm.trans ht)
 obtain ⟨f2, d, q2, hdi, he⟩ := Lib.array_elem Tryz.underlying234 hd i hi
 have hir : i < Go.Pinned.pow10Rows.length := by rw [rowsLen]; exact hi
 have hdd : d = .agg ([hiT i, loT i].map fun z => .lit (.int .u64 z)) := by
  rw [List.getElem?_map, List.getElem?_eq_getElem hir] at hdi
  have := (Option.some.inj hdi).symm
  rw [this]
  simp [hiT, loT, List.getD, List.getElem?_eq_getElem hir]
 rw [hdd, cPm] at he
 have hints := Lib.ints_of_struct Tryz.underlying233 (fun j f hj => by
  match j, hj with
  | 0, hj => (have := Option.some.inj hj; subst this; exact ⟨Tryz.underlying22, rfl, cU64⟩)
  | 1, hj => (have := Option.some.inj hj; subst this; exact ⟨Tryz.underlying22, rfl, cU64⟩)
  | j + 2, hj => (exfalso; simp at hj)) cPm he
 have g0 : cs.toList[i * 2]? = some (.int .u64 (hiT i)) := by
  have := congrArg (·[0]?) hints
  simpa [List.getElem?_take, List.getElem?_drop] using this
 have g1 : cs.toList[i * 2 + 1]? = some (.int .u64 (loT i)) := by
  have := congrArg (·[1]?) hints
  simpa [List.getElem?_take, List.getElem?_drop] using this
 rw [Array.getElem?_toList] at g0 g1
 exact ⟨(World.var?_cell hg hv (i * 2)).trans g0, (World.var?_cell hg hv (i * 2 + 1)).trans g1⟩
theorem opt_of {W : World} (h : laidMetH Tryz.prog laidL W) : W.cell? ⟨2, 0, none⟩ = some (.bool true) := by
 have h2 := (laidMetH_iff.1 h).1.filter fun x => x.1 == "internal/strconv.optimize"
 rw [optFilter] at h2
 obtain ⟨ps, ⟨g, t, cs, fuel, p, q, hg, ht, hv, hd, _, _⟩, _⟩ := h2
 obtain rfl := Option.some.inj (gOpt.symm.trans hg)
 obtain rfl := Option.some.inj (tOpt.symm.trans ht)
 obtain ⟨b, hb, hx⟩ := DataW.trod_bool Tryz.underlying4 hd
 have he : (DataW.lit (.bool true) : DataW Unit) = .lit (.bool b) := congrArg Prod.fst hx
 have hbt : true = b := by injection he with he; injection he
 subst hbt
 have g0 : cs[0]? = some (.bool true) := by rw [← Array.getElem?_toList, hb]; rfl
 exact (World.var?_cell hg hv 0).trans g0
theorem cUint : Tryz.prog.cellsOf 168 = 1 := by kernel_rfl
theorem cFloat : Tryz.prog.cellsOf 51 = 1 := by kernel_rfl
theorem trod_float {H : Type} {enc : TypeId × Value → H} {P : Program} {w : World} {base : Nat} {spare : Nat → Bool} {held : Bool} {fuel : Nat} {t : TypeId} {cs : List Value} {x : DataW H × List MemPlace} {k : FloatKind} (ht : P.underlying t = some (.float k)) (h : DataW.trod enc P w base spare held fuel t cs = some x) : ∃ b, cs = [.float k b] ∧ x.1 = .lit (.float k b) := by
 cases fuel with
 | zero => simp [DataW.trod] at h
 | succ n =>
  unfold DataW.trod at h
  rw [ht] at h
  split at h <;> simp_all
  rw [← h.2]
/-! ### A world for the witness -/
noncomputable def setVar (w : World) (g : Nat) (cs : List Value) : World := { w with heap := w.heap.modify g fun
   | .cells _ t frozen => .cells cs.toArray t frozen
   | o => o }
noncomputable def errWorld (os : Os) : World := setVar (World.holding Tryz.prog os ⟨#[], #[], []⟩) 1 [.iface 110 (.agg #[.pointer (some ⟨22, 31, none⟩)])]
theorem witness_row_sh {H : Type} {enc : TypeId × Value → H} {C : Checked} {os : Os} {f : FuncId} {fn : Func} {s : OpenSpec} {conds : List PathCond} {apart : Bool} {laid : List (String × DataW Unit)} (modest : Bool) (w0 : World) (args : Array Value) (hos : w0.os = os)
  (hsh : (w0.forCall (fun _ _ => 0) ⟨#[], args, []⟩).Shaped C.prog)
  (hok : Input.okWideB C.prog (w0.forCall (fun _ _ => 0) ⟨#[], args, []⟩) f ⟨#[], args, []⟩ = true)
  (hrow : s.preRow enc C.prog fn conds apart laid (w0.forCall (fun _ _ => 0) ⟨#[], args, []⟩).memory args) :
  ∃ (w : World) (tape : Tape) (i : Input), w.os = os ∧ (w.forCall tape i).Shaped C.prog ∧ i.vars = [] ∧ Input.okWide C.prog (w.forCall tape i) .any w.heap.size f i ∧
   s.preRow enc C.prog fn conds apart laid (w.forCall tape i).memory i.args ∧ ({ modest := modest } : Assume).holds C.prog (lone (Frame.enter C.prog f i.args .normal) [] (w.forCall tape i)) :=
 ⟨w0, fun _ _ => 0, ⟨#[], args, []⟩, hos, hsh, (Input.okWide_of_okWideB (base := 0) hok).1, (Input.okWide_of_okWideB hok).2, hrow, by
  simp only [Assume.holds]
  exact ⟨by simp, by simp, fun _ => Modest.zero, by simp, by simp⟩⟩
end Go.Proofs.YtjleceekccehoaaGreatDoor.Pr
end

section
-- Written by a program of this session (wip/hook.py) out of the translation. Not trusted: Lean checks it.
namespace Go.Proofs.YtjleceekccehoaaGreatDoor.Pr
open Go.RowKit Go.Proofs.YtjleceekccehoaaGreatDoorW.PrintWords Go.Proofs.YtjleceekccehoaaGreatDoorW.PrintLast Go.Proofs.YtjleceekccehoaaGreatDoorW.PrintMore
attribute [local go_sem] max2_int min2_int max_two min_two max_three min_three max_four min_four   -- for this text's walks alone
set_option linter.unusedVariables false
set_option linter.unusedSimpArgs false

/-! ### strconv_unmin: function 140 -/
def strconv_unmin.f (a0 : Int) : Option (Int) := some (IntKind.u64.wrap ((IntKind.u64.wrap (a0 * 4)) - 2))
set_option maxHeartbeats 8000000 in
set_option maxRecDepth 100000 in
theorem strconv_unmin.calls (a0 : Int) (r : Int) (w : World) (h : strconv_unmin.f a0 = some r) :
  Calls Tryz.prog 140 #[.int .u64 a0] w fun e w' => e = .returned (.int .u64 r) ∧ Drawn0 w w' := by
 have H : (some (IntKind.u64.wrap ((IntKind.u64.wrap (a0 * 4)) - 2))) = some r := h
 clear h
 obtain rfl := Option.some.inj H
 go_enter Tryz.func140, Tryz.ntmps140
 go_wp2
 go_ret
 exact ⟨by first | rfl | (simp; done) | (simp [*]; done), by repeat (first | exact Drawn0.refl _ | apply Drawn0.step)⟩

end Go.Proofs.YtjleceekccehoaaGreatDoor.Pr
end

section
set_option linter.unusedVariables false
set_option linter.unusedSimpArgs false
namespace Go.Proofs.YtjleceekccehoaaGreatDoor.Pr
open Go.RowKit Go.Proofs.Fl Go.Proofs.YtjleceekccehoaaGreatDoorW.PrintWords Go.Proofs.YtjleceekccehoaaGreatDoorW.PrintLast Go.Proofs.YtjleceekccehoaaGreatDoorW.PrintMore

/-- No error, or one of strconv's own. -/
def ErrV (v : Value) : Prop := v = .nilIface ∨ v = .iface 132 (.int .i64 1) ∨ v = .iface 132 (.int .i64 2)
def PfE (e : Ending) : Prop := ∃ (x : Nat) (v : Value), e = .returned (.tuple #[.float .f64 x, v]) ∧ ErrV v
attribute [local go_sem] frombits2_run
set_option maxHeartbeats 4000000 in
set_option maxRecDepth 100000 in
theorem pack64_any (m e : Int) (w : World) : Calls Tryz.prog 182 #[.int .u64 m, .int .i64 e] w fun e_ w' => PfE e_ ∧ Below w.heap.size w w' := by
 have k1 := frombits2_run
 go_enter Tryz.func182, Tryz.ntmps182
 go_wp2_with fail
 all_goals
  refine bodyPost_ret (results_list (rs := [.tmp 4, .tmp 5]) rfl (by simp) (.tmp (.tmp .nil))) rfl ?_
  exact ⟨⟨_, _, rfl, by first | exact Or.inl rfl | exact Or.inr (Or.inl rfl)⟩, by repeat (first | (with_reducible exact Below.refl _ _) | apply pw_below_drewN | apply below_drew1 | exact Below.refl _ _)⟩
attribute [local go_sem] max2_int min2_int max_two min_two
theorem b2i_ex (b : Bool) (w : World) : Calls Tryz.prog 139 #[.bool b] w fun e w' => ∃ s : Int, e = .returned (.int .i64 s) ∧ 0 ≤ s ∧ s ≤ 1 ∧ Drawn0 w w' :=
 (b2i_any b w).mono fun _ _ ⟨a, h⟩ => ⟨_, a, by unfold b2i; split <;> omega, by unfold b2i; split <;> omega, h⟩
theorem umin_ex (a : Int) (w : World) : Calls Tryz.prog 140 #[.int .u64 a] w fun e w' => ∃ s : Int, e = .returned (.int .u64 s) ∧ Drawn0 w w' :=
 (strconv_unmin.calls a _ w rfl).mono fun _ _ ⟨a, h⟩ => ⟨_, a, h⟩
theorem roun_ex (a : Int) (w : World) : Calls Tryz.prog 137 #[.int .u64 a] w fun e w' => ∃ s : Int, e = .returned (.int .u64 s) ∧ Drawn0 w w' :=
 (strconv_unrounded_round.calls a _ w rfl).mono fun _ _ ⟨a, h⟩ => ⟨_, a, h⟩
theorem l2_ex (a : Int) (w : World) : Calls Tryz.prog 132 #[.int .i64 a] w fun e w' => ∃ s : Int, e = .returned (.int .i64 s) ∧ Drawn0 w w' := (l2_any a w).mono fun _ _ ⟨a, h⟩ => ⟨_, a, h⟩
theorem len_ex (x : Int) (h0 : 0 ≤ x) (h1 : x ≤ 18446744073709551615) (w : World) : Calls Tryz.prog 100 #[.int .u64 x] w fun e w' => ∃ s : Int, e = .returned (.int .i64 s) ∧ 0 ≤ s ∧ s ≤ 64 ∧ w = w' :=
 (len_any x h0 h1 w).mono fun _ _ ⟨a, h⟩ => ⟨_, a, (len64_bd x).1, (len64_bd x).2, h⟩
set_option maxHeartbeats 4000000 in
set_option maxRecDepth 100000 in
theorem parseFloat64_any (d p sg : Int) (h0 : 0 ≤ d) (h1 : d ≤ 18446744073709551615) (p0 : -345 ≤ p) (p1 : p ≤ 310) (w : World) (hL : LaidF w) :
  Calls Tryz.prog 164 #[.int .u64 d, .int .i64 p, .int .u64 sg] w fun e_ w' => PfE e_ ∧ Below w.heap.size w w' := by
 have HL := Aside0.mk hL
 have k1 := frombits2_run
 clear hL
 go_enter Tryz.func164, Tryz.ntmps164
 go_wp2_with (first
  | (go_at_call 100; refine (len_ex _ h0 h1 _).mono ?_; rintro e_ w' ⟨b, rfl, hb0, hb1, rfl⟩)
  | (go_at_call 132; refine (l2_ex _ _).mono ?_; rintro e_ w' ⟨lp, rfl, ⟨m1, rfl⟩⟩)
  | (go_at_call 131; refine (prescale_any _ _ _ _ _ p _ (by omega) (by omega) w _ (IsS186.drewN (IsS186.new w _ 0 0 0 (by repeat (first | (with_reducible first | exact Below.refl _ _ | apply pw_below_drewN | apply below_drew1 | apply below_alloc) | exact Below.refl _ _))) _) (by repeat (first | (with_reducible first | exact Below.refl _ _ | apply pw_below_drewN | apply below_drew1 | apply below_alloc) | exact Below.refl _ _)) HL.out).mono ?_; rintro e_ w' ⟨rfl, hi_, hb_⟩; generalize preS _ _ = s at hi_; have HI := Aside0.mk hi_; have HB := Aside0.mk hb_; have x2 := cellS186_2 hi_.1; clear hi_ hb_)
  | (go_at_call 133; refine (uscale_any _ _ _ _ _ w _ HI.out HB.out).mono ?_; rintro e_ w' ⟨rfl, hi_, hb_⟩; generalize usc _ _ _ _ = u; have n1_ := Aside0.mk hb_; clear HI HB hi_ hb_; have HB := n1_; clear n1_)
  | (go_at_call 140; refine (umin_ex _ _).mono ?_; rintro e_ w' ⟨s3, rfl, ⟨m3, rfl⟩⟩)
  | (go_at_call 139; refine (b2i_ex _ _).mono ?_; rintro e_ w' ⟨s4, rfl, hs40, hs41, ⟨m4, rfl⟩⟩)
  | (go_at_call 137; refine (roun_ex _ _).mono ?_; rintro e_ w' ⟨s5, rfl, ⟨m5, rfl⟩⟩)
  | (go_at_call 182; refine (pack64_any _ _ _).mono ?_; rintro e_ w' ⟨⟨x, v, rfl, hv⟩, hb9⟩; have HV := Aside0.mk hv; have HB9 := Aside0.mk (below_step HB.out (below_step (by repeat (first | (with_reducible first | exact Below.refl _ _ | apply pw_below_drewN | apply below_drew1 | apply below_alloc) | exact Below.refl _ _)) hb9)); clear hv hb9))
 all_goals
  refine bodyPost_ret (results_list (rs := [.tmp 6, .tmp 7]) rfl (by simp) (.tmp (.tmp .nil))) rfl ?_
  first
   | exact ⟨⟨_, _, rfl, HV.out⟩, HB9.out⟩
   | exact ⟨⟨_, _, rfl, Or.inl rfl⟩, HB.out⟩
end Go.Proofs.YtjleceekccehoaaGreatDoor.Pr
end

section
set_option linter.unusedVariables false
set_option linter.unusedSimpArgs false
namespace Go.Proofs.YtjleceekccehoaaGreatDoor.Pr
open Go.RowKit Go.Proofs.Fl Go.Proofs.YtjleceekccehoaaGreatDoorW.PrintWords Go.Proofs.YtjleceekccehoaaGreatDoorW.PrintLast Go.Proofs.YtjleceekccehoaaGreatDoorW.PrintMore

/-- strconv's powers of ten as floats. -/
structure LaidT (w : World) : Prop where
 bits : w.cell? ⟨13, 0, none⟩ = some (.int .u64 52)
 pow : ∃ (b o c : Nat), w.cell? ⟨18, 0, none⟩ = some (.slice (some ⟨b, o, none⟩) 23 c) ∧ 23 ≤ c ∧ ∀ i, i < 23 → ∃ x : Nat, w.cell? ⟨b, o + i, none⟩ = some (.float .f64 x)
theorem LaidT.below {w w' : World} (h : LaidT w) (hb : Below w.heap.size w w') : LaidT w' := by
 obtain ⟨b, o, c, h1, h2, h3⟩ := h.pow
 exact ⟨pw_cell_below hb h.bits, b, o, c, pw_cell_below hb h1, h2, fun i hi => by obtain ⟨x, hx⟩ := h3 i hi; exact ⟨x, pw_cell_below hb hx⟩⟩
def ExE (e : Ending) : Prop := ∃ (x : Nat) (ok : Bool), e = .returned (.tuple #[.float .f64 x, .bool ok])
set_option maxHeartbeats 4000000 in
set_option maxRecDepth 100000 in
theorem exact_any (M p : Int) (m0 : 0 ≤ M) (m1 : M ≤ 18446744073709551615) (p0 : -1000 ≤ p) (p1 : p ≤ 1000) (w : World) (hT : LaidT w) :
  Calls Tryz.prog 163 #[.int .u64 M, .int .i64 p, .bool false] w fun e_ w' => ExE e_ ∧ Below w.heap.size w w' := by
 obtain ⟨b, o, c, h1, h2, h3⟩ := hT.pow
 have hb := hT.bits
 have hm := fun w t x y => run_arith (P := Tryz.prog) w .mul t x y rfl
 have hq := fun w t x y => run_arith (P := Tryz.prog) w .quo t x y rfl
 have H3 := Aside0.mk h3
 clear hT h3
 by_cases c0 : p = 0
 ·subst c0
  go_enter Tryz.func163, Tryz.ntmps163
  go_wp2_with fail
  all_goals
   refine bodyPost_ret (results_list (rs := [.tmp 6, .tmp 7]) rfl (by simp) (.tmp (.tmp .nil))) rfl ?_
   exact ⟨⟨_, _, rfl⟩, by repeat (first | (with_reducible exact Below.refl _ _) | apply pw_below_drewN | apply below_drew1 | exact Below.refl _ _)⟩
 have t0 : (p == 0) = false := by rw [beq_eq_false_iff_ne]; exact c0
 clear c0
 by_cases c1 : 0 < p
 ·by_cases c2 : p ≤ 37
  ·by_cases c3 : 22 < p
   ·obtain ⟨i, hi⟩ : ∃ i : Nat, p - 22 = i := ⟨(p - 22).toNat, by omega⟩
    obtain ⟨x1, q1⟩ := H3.out i (by omega)
    obtain ⟨x2, q2⟩ := H3.out 22 (by omega)
    have z0 : (0 : Int) ≤ (i : Int) := by omega
    have z1 : (i : Int) < 23 := by omega
    go_enter Tryz.func163, Tryz.ntmps163
    go_wp2_with fail
    all_goals
     refine bodyPost_ret (results_list (rs := [.tmp 6, .tmp 7]) rfl (by simp) (.tmp (.tmp .nil))) rfl ?_
     exact ⟨⟨_, _, rfl⟩, by repeat (first | (with_reducible exact Below.refl _ _) | apply pw_below_drewN | apply below_drew1 | exact Below.refl _ _)⟩
   ·obtain ⟨i, rfl⟩ : ∃ i : Nat, p = i := ⟨p.toNat, by omega⟩
    obtain ⟨x1, q1⟩ := H3.out i (by omega)
    have z0 : (0 : Int) ≤ (i : Int) := by omega
    have z1 : (i : Int) < 23 := by omega
    have z2 : ((i : Int) > 22) = False := eq_false (by omega)
    go_enter Tryz.func163, Tryz.ntmps163
    go_wp2_with fail
    all_goals
     refine bodyPost_ret (results_list (rs := [.tmp 6, .tmp 7]) rfl (by simp) (.tmp (.tmp .nil))) rfl ?_
     exact ⟨⟨_, _, rfl⟩, by repeat (first | (with_reducible exact Below.refl _ _) | apply pw_below_drewN | apply below_drew1 | exact Below.refl _ _)⟩
  ·have z2 : (p ≤ 37) = False := eq_false (by omega)
   go_enter Tryz.func163, Tryz.ntmps163
   go_wp2_with fail
   all_goals
    refine bodyPost_ret (results_list (rs := [.tmp 6, .tmp 7]) rfl (by simp) (.tmp (.tmp .nil))) rfl ?_
    exact ⟨⟨_, _, rfl⟩, by repeat (first | (with_reducible exact Below.refl _ _) | apply pw_below_drewN | apply below_drew1 | exact Below.refl _ _)⟩
 ·have z3 : (p > 0) = False := eq_false (by omega)
  have z4 : p < 0 := by have := beq_eq_false_iff_ne.1 t0; omega
  by_cases c2 : -22 ≤ p
  ·obtain ⟨i, hi⟩ : ∃ i : Nat, -p = i := ⟨(-p).toNat, by omega⟩
   obtain ⟨x1, q1⟩ := H3.out i (by omega)
   have z0 : (0 : Int) ≤ (i : Int) := by omega
   have z1 : (i : Int) < 23 := by omega
   go_enter Tryz.func163, Tryz.ntmps163
   go_wp2_with fail
   all_goals
    refine bodyPost_ret (results_list (rs := [.tmp 6, .tmp 7]) rfl (by simp) (.tmp (.tmp .nil))) rfl ?_
    exact ⟨⟨_, _, rfl⟩, by repeat (first | (with_reducible exact Below.refl _ _) | apply pw_below_drewN | apply below_drew1 | exact Below.refl _ _)⟩
  ·have z2 : (p ≥ -22) = False := eq_false (by omega)
   go_enter Tryz.func163, Tryz.ntmps163
   go_wp2_with fail
   all_goals
    refine bodyPost_ret (results_list (rs := [.tmp 6, .tmp 7]) rfl (by simp) (.tmp (.tmp .nil))) rfl ?_
    exact ⟨⟨_, _, rfl⟩, by repeat (first | (with_reducible exact Below.refl _ _) | apply pw_below_drewN | apply below_drew1 | exact Below.refl _ _)⟩
end Go.Proofs.YtjleceekccehoaaGreatDoor.Pr
end
