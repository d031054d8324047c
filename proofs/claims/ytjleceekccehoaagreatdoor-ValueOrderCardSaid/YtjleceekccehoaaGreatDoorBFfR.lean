/- Texts of this session, cut down to what one claim needs and joined: FfR. -/
import Derived.Test.YtjleceekccehoaaGreatDoorBFfLaw2
import Derived.Test.YtjleceekccehoaaGreatDoorCards
import Derived.Test.YtjleceekccehoaaGreatDoorTie
import Derived.WalkKit
import Derived.ProofKit
import Derived.OpenShut
import Derived.LaidSub
import Derived.LaidHandle
import Derived.Deep.DeepHandedRow
import Derived.Lib.LaidTab
import Derived.Lib.LaidU8
import Derived.Lib.ItoaNum
import Derived.ChangeSlices
import Derived.SevenTiedAt
import Derived.ShutString
import Derived.Lay
set_option linter.unusedVariables false
set_option linter.unusedSimpArgs false
namespace Go.Proofs.YtjleceekccehoaaGreatDoor.Pr
open Go.ChangeShapes Go.WideShapes Go.ChangeAt Go.RowKit

theorem laidOwn : ownKnob Tryz.prog.godebug = none := by kernel_rfl
/-- The rows' list. -/
def laidL : List (String × DataW Unit) := Rows.valueBitsRow.laid
theorem gErr : Tryz.prog.globalNamed "errors.errorType" = some 1 := by kernel_rfl
theorem gPow : Tryz.prog.globalNamed "internal/strconv.uint64pow10" = some 9 := by kernel_rfl
theorem gTab : Tryz.prog.globalNamed "internal/strconv.pow10Tab" = some 14 := by kernel_rfl
theorem gOpt : Tryz.prog.globalNamed "internal/strconv.optimize" = some 2 := by kernel_rfl
theorem gInfo : Tryz.prog.globalNamed "internal/strconv.float64info" = some 13 := by kernel_rfl
theorem gFl : Tryz.prog.globalNamed "internal/strconv.float64pow10" = some 18 := by kernel_rfl
theorem tTab : (Tryz.prog.globals[14]?).map (·.type) = some 234 := by kernel_rfl
theorem tOpt : (Tryz.prog.globals[2]?).map (·.type) = some 4 := by kernel_rfl
theorem tInfo : (Tryz.prog.globals[13]?).map (·.type) = some 214 := by kernel_rfl
theorem tFl : (Tryz.prog.globals[18]?).map (·.type) = some 258 := by kernel_rfl
theorem rtHandle : (Tryz.prog.cutTypes.find? (·.1 == "internal/reflectlite.rtype")).map (·.2) = some 110 := by kernel_rfl
theorem handleFilter : (laidL.filter fun x => x.2.handleName?.isSome) = [("errors.errorType", Rows.laid_errors_errorType)] := by kernel_rfl
theorem powFilter : ((laidL.filter fun x => x.2.handleName?.isNone).filter fun x => x.1 == "internal/strconv.uint64pow10") = [("internal/strconv.uint64pow10", Lib.tabData .u64 Lib.pow10Tab)] := by kernel_rfl
theorem tabFilter : ((laidL.filter fun x => x.2.handleName?.isNone).filter fun x => x.1 == "internal/strconv.pow10Tab") = [("internal/strconv.pow10Tab", Go.Pinned.pow10Tab)] := by kernel_rfl
theorem optFilter : ((laidL.filter fun x => x.2.handleName?.isNone).filter fun x => x.1 == "internal/strconv.optimize") = [("internal/strconv.optimize", Rows.laid_internal_strconv_optimize)] := by kernel_rfl
theorem infoFilter : ((laidL.filter fun x => x.2.handleName?.isNone).filter fun x => x.1 == "internal/strconv.float64info") = [("internal/strconv.float64info", Rows.laid_internal_strconv_float64info)] := by kernel_rfl
theorem flFilter : ((laidL.filter fun x => x.2.handleName?.isNone).filter fun x => x.1 == "internal/strconv.float64pow10") = [("internal/strconv.float64pow10", Rows.laid_internal_strconv_float64pow10)] := by kernel_rfl
theorem errRows : ((List.range 394).filter fun t => Tryz.prog.rowNamed t [101, 114, 114, 111, 114]) = [31] := by kernel_rfl
theorem typesSize : decide (Tryz.prog.types.size ≤ 394) = true := by kernel_rfl
theorem errHandle : typeHandle Tryz.prog 31 = .pointer (some ⟨22, 31, none⟩) := by kernel_rfl

theorem laidE_of {W : World} (h : laidMetH Tryz.prog laidL W) : LaidE W := by
  have h2 := (laidMetH_iff.1 h).2
  rw [handleFilter] at h2
  obtain ⟨name, u, ty, e1, e2, e3, e4, e5⟩ := h2 _ (List.mem_singleton.2 rfl)
  have en : name = [101, 114, 114, 111, 114] := (Option.some.inj e1).symm
  subst en
  obtain rfl := Option.some.inj (rtHandle.symm.trans e2)
  have hm : ty ∈ (List.range 394).filter fun t => Tryz.prog.rowNamed t [101, 114, 114, 111, 114] := List.mem_filter.2 ⟨List.mem_range.2 (Nat.lt_of_lt_of_le e3 (of_decide_eq_true typesSize)), e4⟩
  rw [errRows] at hm
  obtain rfl := List.mem_singleton.1 hm
  rw [errHandle] at e5
  simpa [LaidE] using World.var?_cell gErr e5 0
theorem pow_of {W : World} (h : laidMetH Tryz.prog laidL W) : ∀ i, i < 20 → W.cell? ⟨9, i, none⟩ = some (.int .u64 (p10 i)) := by
  have h2 := (laidMetH_iff.1 h).1.filter fun x => x.1 == "internal/strconv.uint64pow10"
  rw [powFilter] at h2
  have h3 := Lib.tabIs_of_head (rest := []) gPow (t := 195) (n := 20) (by kernel_rfl) Tryz.underlying195 Tryz.underlying22 (by kernel_rfl) (by kernel_rfl) h2
  intro i hi
  have h4 := h3.cell gPow i (by simp [Lib.pow10Tab]; omega)
  rw [h4]
  simp [Lib.pow10Tab, List.getD, hi, p10]
theorem cPm : Tryz.prog.cellsOf 233 = 2 := by kernel_rfl
theorem cU64 : Tryz.prog.cellsOf 22 = 1 := by kernel_rfl
theorem rowsLen : Go.Pinned.pow10Rows.length = 696 := by kernel_rfl
theorem tab_of {W : World} (h : laidMetH Tryz.prog laidL W) (i : Nat) (hi : i < 696) :
    W.cell? ⟨14, i * 2, none⟩ = some (.int .u64 (hiT i)) ∧ W.cell? ⟨14, i * 2 + 1, none⟩ = some (.int .u64 (loT i)) := by
  have h2 := (laidMetH_iff.1 h).1.filter fun x => x.1 == "internal/strconv.pow10Tab"
  rw [tabFilter] at h2
  obtain ⟨ps, ⟨g, t, cs, fuel, p, q, hg, ht, hv, hd, _, _⟩, _⟩ := h2
  obtain rfl := Option.some.inj (gTab.symm.trans hg)
  obtain rfl := Option.some.inj (tTab.symm.trans ht)
  obtain ⟨f2, d, q2, hdi, he⟩ := Lib.array_elem Tryz.underlying234 hd i hi
  have hir : i < Go.Pinned.pow10Rows.length := by rw [rowsLen]; exact hi
  have hdd : d = .agg ([hiT i, loT i].map fun z => .lit (.int .u64 z)) := by
    rw [List.getElem?_map, List.getElem?_eq_getElem hir] at hdi
    have := (Option.some.inj hdi).symm
    rw [this]
    simp [hiT, loT, List.getD, List.getElem?_eq_getElem hir]
  rw [hdd, cPm] at he
  have hints := Lib.ints_of_struct Tryz.underlying233 (fun j f hj => by
    match j, hj with
    | 0, hj => (have := Option.some.inj hj; subst this; exact ⟨Tryz.underlying22, rfl, cU64⟩)
    | 1, hj => (have := Option.some.inj hj; subst this; exact ⟨Tryz.underlying22, rfl, cU64⟩)
    | j + 2, hj => (exfalso; simp at hj)) cPm he
  have g0 : cs.toList[i * 2]? = some (.int .u64 (hiT i)) := by
    have := congrArg (·[0]?) hints
    simpa [List.getElem?_take, List.getElem?_drop] using this
  have g1 : cs.toList[i * 2 + 1]? = some (.int .u64 (loT i)) := by
    have := congrArg (·[1]?) hints
    simpa [List.getElem?_take, List.getElem?_drop] using this
  rw [Array.getElem?_toList] at g0 g1
  exact ⟨(World.var?_cell hg hv (i * 2)).trans g0, (World.var?_cell hg hv (i * 2 + 1)).trans g1⟩
theorem opt_of {W : World} (h : laidMetH Tryz.prog laidL W) : W.cell? ⟨2, 0, none⟩ = some (.bool true) := by
  have h2 := (laidMetH_iff.1 h).1.filter fun x => x.1 == "internal/strconv.optimize"
  rw [optFilter] at h2
  obtain ⟨ps, ⟨g, t, cs, fuel, p, q, hg, ht, hv, hd, _, _⟩, _⟩ := h2
  obtain rfl := Option.some.inj (gOpt.symm.trans hg)
  obtain rfl := Option.some.inj (tOpt.symm.trans ht)
  obtain ⟨b, hb, hx⟩ := DataW.trod_bool Tryz.underlying4 hd
  have he : (DataW.lit (.bool true) : DataW Unit) = .lit (.bool b) := congrArg Prod.fst hx
  have hbt : true = b := by injection he with he; injection he
  subst hbt
  have g0 : cs[0]? = some (.bool true) := by rw [← Array.getElem?_toList, hb]; rfl
  exact (World.var?_cell hg hv 0).trans g0
theorem cUint : Tryz.prog.cellsOf 168 = 1 := by kernel_rfl
theorem info_of {W : World} (h : laidMetH Tryz.prog laidL W) : W.cell? ⟨13, 0, none⟩ = some (.int .u64 52) := by
  have h2 := (laidMetH_iff.1 h).1.filter fun x => x.1 == "internal/strconv.float64info"
  rw [infoFilter] at h2
  obtain ⟨ps, ⟨g, t, cs, fuel, p, q, hg, ht, hv, hd, _, _⟩, _⟩ := h2
  obtain rfl := Option.some.inj (gInfo.symm.trans hg)
  obtain rfl := Option.some.inj (tInfo.symm.trans ht)
  obtain ⟨xs, n, rfl, hx, hl, hxl, hall⟩ := DataW.trod_struct Tryz.underlying214 hd
  have he := hall 0 _ rfl
  have hx0 : xs.map (·.1) = [.lit (.int .u64 52), .lit (.int .u64 11), .lit (.int .i64 (-1023))] := by
    have := congrArg Prod.fst hx
    exact (DataW.agg.inj this).symm
  match xs, hx0 with
  | x0 :: xr, hx0 =>
    have e0 : x0.1 = .lit (.int .u64 52) := (List.cons.inj hx0).1
    have he2 : DataW.trod (fun _ => ()) Tryz.prog W 0 (fun _ => true) false n 168 ((cs.toList.drop 0).take (Tryz.prog.cellsOf 168)) = some x0 := he
    rw [cUint] at he2
    obtain ⟨k, hk, hxx, _⟩ := DataW.trod_int Tryz.underlying168 he2
    rw [hxx] at e0
    have hkk : k = 52 := by simpa only [DataW.lit.injEq, Lit.int.injEq, true_and] using e0
    subst hkk
    have g0 : cs.toList[0]? = some (.int .u64 52) := by
      have := congrArg (·[0]?) hk
      simpa [List.getElem?_take, List.getElem?_drop] using this
    rw [Array.getElem?_toList] at g0
    exact (World.var?_cell hg hv 0).trans g0
theorem cFloat : Tryz.prog.cellsOf 51 = 1 := by kernel_rfl
theorem trod_float {H : Type} {enc : TypeId × Value → H} {P : Program} {w : World} {base : Nat} {spare : Nat → Bool} {held : Bool} {fuel : Nat} {t : TypeId} {cs : List Value} {x : DataW H × List MemPlace} {k : FloatKind} (ht : P.underlying t = some (.float k)) (h : DataW.trod enc P w base spare held fuel t cs = some x) : ∃ b, cs = [.float k b] ∧ x.1 = .lit (.float k b) := by
  cases fuel with
  | zero => simp [DataW.trod] at h
  | succ n =>
    unfold DataW.trod at h
    rw [ht] at h
    split at h <;> simp_all
    rw [← h.2]
set_option maxRecDepth 100000 in
theorem fl_of {W : World} (h : laidMetH Tryz.prog laidL W) : ∃ (a : Addr) (c : Nat), W.cell? ⟨18, 0, none⟩ = some (.slice (some a) 23 c) ∧ 23 ≤ c ∧ W.cell? ⟨a.block, a.off + 3, none⟩ = some (.float .f64 4652007308841189376) := by
  have h2 := (laidMetH_iff.1 h).1.filter fun x => x.1 == "internal/strconv.float64pow10"
  rw [flFilter] at h2
  obtain ⟨ps, ⟨g, t, cs, fuel, p, q, hg, ht, hv, hd, _, _⟩, _⟩ := h2
  obtain rfl := Option.some.inj (gFl.symm.trans hg)
  obtain rfl := Option.some.inj (tFl.symm.trans ht)
  rcases DataW.trod_slice Tryz.underlying258 hd with ⟨_, hx⟩ | ⟨a, len, cap, elems, rest, n, rfl, hcs, hx, _, hle, _, hlen, hel, _⟩
  · have := congrArg Prod.fst hx
    cases this
  · have hx1 := congrArg Prod.fst hx
    have hx2 : elems.map (·.1) = [.lit (.float .f64 4607182418800017408), .lit (.float .f64 4621819117588971520), .lit (.float .f64 4636737291354636288), .lit (.float .f64 4652007308841189376)] ++ (match (Rows.laid_internal_strconv_float64pow10 : DataW Unit) with | .slice l _ => l.drop 4 | _ => []) := (DataW.slice.inj hx1).1.symm
    have hn : elems.length = 23 := by have := congrArg List.length hx2; simpa [Rows.laid_internal_strconv_float64pow10] using this
    have h3 := hel 3 (by omega)
    have h4 := congrArg (·[3]?) hx2
    simp only [List.getElem?_map] at h4
    obtain ⟨x, hx3⟩ : ∃ x, elems[3]? = some x := ⟨_, List.getElem?_eq_getElem (by omega)⟩
    rw [hx3] at h3 h4
    have h5 : x.1 = .lit (.float .f64 4652007308841189376) := Option.some.inj h4
    rw [cFloat] at h3
    obtain ⟨c1, hc1, ht1⟩ := Option.bind_eq_some_iff.1 h3
    obtain ⟨bb, hcc, hxx⟩ := trod_float Tryz.underlying51 ht1
    subst hcc
    rw [hxx] at h5
    have hbb : bb = 4652007308841189376 := by simpa only [DataW.lit.injEq, Lit.float.injEq, true_and] using h5
    subst hbb
    have hc2 := cell_of_cells?_one hc1
    refine ⟨a, cap, ?_, by omega, hc2⟩
    have g0 : cs[0]? = some (.slice (some a) len cap) := by rw [← Array.getElem?_toList, hcs]; rfl
    rw [show (23 : Nat) = len from by omega]
    exact (World.var?_cell hg hv 0).trans g0
theorem laidAll_of {W : World} (h : laidMetH Tryz.prog laidL W) : LaidA W := ⟨laidE_of h, ⟨pow_of h, fun i hi => (tab_of h i hi).1, fun i hi => (tab_of h i hi).2⟩, ⟨opt_of h, info_of h, fl_of h⟩⟩

/-! ### A world for the witness -/
noncomputable def setVar (w : World) (g : Nat) (cs : List Value) : World := { w with heap := w.heap.modify g fun
      | .cells _ t frozen => .cells cs.toArray t frozen
      | o => o }
noncomputable def errWorld (os : Os) : World := setVar (World.holding Tryz.prog os ⟨#[], #[], []⟩) 1 [.iface 110 (.agg #[.pointer (some ⟨22, 31, none⟩)])]
def plainL : List (String × DataW Unit) := laidL.filter fun x => x.2.handleName?.isNone
noncomputable def laidWorld (os : Os) : World := (errWorld os).layVars Tryz.prog plainL
theorem laidWorld_os (os : Os) : (laidWorld os).os = os := by
  unfold laidWorld
  rw [World.layVars_os]; rfl
set_option maxRecDepth 100000 in
theorem laidWorld_plain (os : Os) (args : Array Value) : laidMet Tryz.prog plainL ((laidWorld os).forCall (fun _ _ => 0) ⟨#[], args, []⟩).memory := by
  have e1 : (plainL.filter fun x => (plainL.map (·.1)).contains x.1) = plainL := List.filter_eq_self.2 fun x hx => List.contains_iff_mem.2 (List.mem_map.2 ⟨x, hx, rfl⟩)
  have e2 : (plainL.filter fun x => !(plainL.map (·.1)).contains x.1) = [] := List.filter_eq_nil_iff.2 fun x hx => by rw [List.contains_iff_mem.2 (List.mem_map.2 ⟨x, hx, rfl⟩)]; simp
  have h : laidMet Tryz.prog plainL (laidWorld os) := laidMet_layVars (w0 := errWorld os) (plainL.map (·.1)) [] (by rw [e1]; rfl) (by rw [e1]; kernel_rfl) (by rw [e1]; kernel_rfl) (by rw [e2]; exact LaidIn.none)
  exact h.of_heap (by simp [World.memory, World.forCall, Input.heap])
set_option maxRecDepth 100000 in
theorem laidWorld_met (os : Os) (args : Array Value) : laidMetH Tryz.prog laidL ((laidWorld os).forCall (fun _ _ => 0) ⟨#[], args, []⟩).memory :=
  laidMetH_of_parts (laidWorld_plain os args) (by rw [handleFilter]; kernel_rfl)
theorem witness_row_sh {H : Type} {enc : TypeId × Value → H} {C : Checked} {os : Os} {f : FuncId} {fn : Func} {s : OpenSpec} {conds : List PathCond} {apart : Bool} {laid : List (String × DataW Unit)} (modest : Bool) (w0 : World) (args : Array Value) (hos : w0.os = os)
    (hsh : (w0.forCall (fun _ _ => 0) ⟨#[], args, []⟩).Shaped C.prog)
    (hok : Input.okWideB C.prog (w0.forCall (fun _ _ => 0) ⟨#[], args, []⟩) f ⟨#[], args, []⟩ = true)
    (hrow : s.preRow enc C.prog fn conds apart laid (w0.forCall (fun _ _ => 0) ⟨#[], args, []⟩).memory args) :
    ∃ (w : World) (tape : Tape) (i : Input), w.os = os ∧ (w.forCall tape i).Shaped C.prog ∧ i.vars = [] ∧ Input.okWide C.prog (w.forCall tape i) .any w.heap.size f i ∧
      s.preRow enc C.prog fn conds apart laid (w.forCall tape i).memory i.args ∧ ({ modest := modest } : Assume).holds C.prog (lone (Frame.enter C.prog f i.args .normal) [] (w.forCall tape i)) :=
  ⟨w0, fun _ _ => 0, ⟨#[], args, []⟩, hos, hsh, (Input.okWide_of_okWideB (base := 0) hok).1, (Input.okWide_of_okWideB hok).2, hrow, by
    simp only [Assume.holds]
    exact ⟨by simp, by simp, fun _ => Modest.zero, by simp, by simp⟩⟩
theorem wf_u64 {a : Int} (h : (Lit.int .u64 a).wf = true) : 0 ≤ a ∧ a ≤ 18446744073709551615 := by
  simp [Lit.wf, IntKind.min, IntKind.max, IntKind.signed, IntKind.bits] at h
  omega
theorem order_row (a b c : Int) (W : World) (hA : LaidA W) (wa : (Lit.int .u64 a).wf = true) (wb : (Lit.int .u64 b).wf = true) (wc : (Lit.int .u64 c).wf = true) :
    Calls Tryz.prog 4 #[.int .u64 a, .int .u64 b, .int .u64 c] W fun e w' => e = .returned (.bool true) ∧ Below W.heap.size W w' :=
  order_law a b c W hA (wf_u64 wa).1 (wf_u64 wa).2 (wf_u64 wb).1 (wf_u64 wb).2 (wf_u64 wc).1 (wf_u64 wc).2
end Go.Proofs.YtjleceekccehoaaGreatDoor.Pr
