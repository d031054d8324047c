/- Span: what the rows' lists give the walks; a world for the witness. -/
import Derived.Test.YtpjbllkifjhknaaDoorSpanL
import Derived.Test.YtpjbllkifjhknaaDoorCards
import Derived.Test.YtpjbllkifjhknaaDoorTie
import Derived.WalkKit
import Derived.ProofKit
import Derived.OpenShut
import Derived.LaidSub
import Derived.LaidHandle
import Derived.Deep.DeepHandedRow
import Derived.Lib.LaidTab
import Derived.SevenTiedAt
import Derived.ShutString
set_option linter.unusedVariables false
set_option linter.unusedSimpArgs false
namespace Go.Proofs.YtpjbllkifjhknaaDoor.Pr
open Go.ChangeShapes Go.WideShapes Go.ChangeAt Go.RowKit

theorem laidOwn : ownKnob Tryd.prog.godebug = none := by kernel_rfl
/-- The three rows' list. -/
def laidL : List (String × DataW Unit) := Rows.spanParsesRow.laid
theorem gErr : Tryd.prog.globalNamed "errors.errorType" = some 1 := by kernel_rfl
theorem gPow : Tryd.prog.globalNamed "internal/strconv.uint64pow10" = some 2 := by kernel_rfl
theorem gUnits : Tryd.prog.globalNamed "soundings/span.units" = some 0 := by kernel_rfl
theorem tUnits : (Tryd.prog.globals[0]?).map (·.type) = some 45 := by kernel_rfl
theorem rtHandle : (Tryd.prog.cutTypes.find? (·.1 == "internal/reflectlite.rtype")).map (·.2) = some 77 := by kernel_rfl
theorem handleFilter : (laidL.filter fun x => x.2.handleName?.isSome) = [("errors.errorType", Rows.laid_errors_errorType)] := by kernel_rfl
theorem powFilter : ((laidL.filter fun x => x.2.handleName?.isNone).filter fun x => x.1 == "internal/strconv.uint64pow10") = [("internal/strconv.uint64pow10", Lib.tabData .u64 Lib.pow10Tab)] := by kernel_rfl
theorem unitsFilter : ((laidL.filter fun x => x.2.handleName?.isNone).filter fun x => x.1 == "soundings/span.units") = [("soundings/span.units", Rows.laid_soundings_span_units)] := by kernel_rfl
theorem errRows : ((List.range 249).filter fun t => Tryd.prog.rowNamed t [101, 114, 114, 111, 114]) = [24] := by kernel_rfl
theorem typesSize : decide (Tryd.prog.types.size ≤ 249) = true := by kernel_rfl
theorem errHandle : typeHandle Tryd.prog 24 = .pointer (some ⟨8, 24, none⟩) := by kernel_rfl

theorem laidE_of {W : World} (h : laidMetH Tryd.prog laidL W) : LaidE W := by
  have h2 := (laidMetH_iff.1 h).2
  rw [handleFilter] at h2
  obtain ⟨name, u, ty, e1, e2, e3, e4, e5⟩ := h2 _ (List.mem_singleton.2 rfl)
  have en : name = [101, 114, 114, 111, 114] := (Option.some.inj e1).symm
  subst en
  obtain rfl := Option.some.inj (rtHandle.symm.trans e2)
  have hm : ty ∈ (List.range 249).filter fun t => Tryd.prog.rowNamed t [101, 114, 114, 111, 114] := List.mem_filter.2 ⟨List.mem_range.2 (Nat.lt_of_lt_of_le e3 (of_decide_eq_true typesSize)), e4⟩
  rw [errRows] at hm
  obtain rfl := List.mem_singleton.1 hm
  rw [errHandle] at e5
  simpa [LaidE] using World.var?_cell gErr e5 0
theorem laidP_of {W : World} (h : laidMetH Tryd.prog laidL W) : LaidP W := by
  have h2 := (laidMetH_iff.1 h).1.filter fun x => x.1 == "internal/strconv.uint64pow10"
  rw [powFilter] at h2
  exact Lib.tabIs_of_head (rest := []) gPow (t := 104) (n := 20) (by kernel_rfl) Tryd.underlying104 Tryd.underlying92 (by kernel_rfl) (by kernel_rfl) h2
theorem cUnit : Tryd.prog.cellsOf 44 = 2 := by kernel_rfl
theorem cStr : Tryd.prog.cellsOf 9 = 1 := by kernel_rfl
theorem cI64 : Tryd.prog.cellsOf 2 = 1 := by kernel_rfl
theorem unit_cells {W : World} {fuel : Nat} {c : List Value} {x : DataW Unit × List MemPlace} (h : DataW.trod (fun _ => ()) Tryd.prog W 0 (fun _ => true) false fuel 44 c = some x) (l : List UInt8) (n : Int)
    (hx : x.1 = .agg [.lit (.string l), .lit (.int .i64 n)]) : c[0]? = some (.string ⟨l.toArray⟩) ∧ c[1]? = some (.int .i64 n) := by
  obtain ⟨y0, y1, m, rfl, hl, t0, t1⟩ := Go.ChangeShapes.trod_struct2 Tryd.underlying44 h
  simp only [DataW.agg.injEq, List.cons.injEq, and_true] at hx
  obtain ⟨s, hs, rfl, _⟩ := DataW.trod_string Tryd.underlying9 t0
  obtain ⟨k, hk, rfl, _⟩ := DataW.trod_int Tryd.underlying2 t1
  simp only [DataW.lit.injEq, Lit.string.injEq, Lit.int.injEq, true_and] at hx
  obtain ⟨rfl, rfl⟩ := hx
  constructor
  · have := congrArg (·[0]?) hs
    rw [cStr] at this
    simpa using this
  · have := congrArg (·[0]?) hk
    rw [cI64] at this
    simpa [List.getElem?_take, List.getElem?_drop] using this
theorem laidU_of {W : World} (h : laidMetH Tryd.prog laidL W) : LaidU W := by
  have h2 := (laidMetH_iff.1 h).1.filter fun x => x.1 == "soundings/span.units"
  rw [unitsFilter] at h2
  obtain ⟨ps, ⟨g, t, cs, fuel, p, q, hg, ht, hv, hd, _, _⟩, _⟩ := h2
  obtain rfl := Option.some.inj (gUnits.symm.trans hg)
  obtain rfl := Option.some.inj (tUnits.symm.trans ht)
  obtain ⟨xs, m, _, hx, hl, hn, hel⟩ := DataW.trod_array Tryd.underlying45 hd
  have hx1 : xs.map (·.1) = [.agg [.lit (.string [121]), .lit (.int .i64 31536000000)], .agg [.lit (.string [119]), .lit (.int .i64 604800000)], .agg [.lit (.string [100]), .lit (.int .i64 86400000)], .agg [.lit (.string [104]), .lit (.int .i64 3600000)], .agg [.lit (.string [109]), .lit (.int .i64 60000)], .agg [.lit (.string [115]), .lit (.int .i64 1000)], .agg [.lit (.string [109, 115]), .lit (.int .i64 1)]] := by
    have := congrArg Prod.fst hx
    exact (DataW.agg.inj this).symm
  have key : ∀ (i : Nat) (l : List UInt8) (n : Int), i < 7 → (xs.map (·.1))[i]? = some (.agg [.lit (.string l), .lit (.int .i64 n)]) → W.cell? ⟨0, 2 * i, none⟩ = some (.string ⟨l.toArray⟩) ∧ W.cell? ⟨0, 2 * i + 1, none⟩ = some (.int .i64 n) := by
    intro i l n hi he
    rw [List.getElem?_map, Option.map_eq_some_iff] at he
    obtain ⟨x, hxi, hxe⟩ := he
    have h3 := hel i hi
    rw [hxi, cUnit] at h3
    obtain ⟨k0, k1⟩ := unit_cells h3 l n hxe
    have c0 := World.var?_cell hg hv (2 * i)
    have c1 := World.var?_cell hg hv (2 * i + 1)
    simp only [List.getElem?_take, List.getElem?_drop] at k0 k1
    rw [c0, c1]
    constructor
    · rw [Nat.mul_comm 2 i, ← k0]; simp
    · rw [Nat.mul_comm 2 i, ← k1]; simp
  rw [hx1] at key
  exact ⟨key 0 _ _ (by decide) rfl, key 1 _ _ (by decide) rfl, key 2 _ _ (by decide) rfl, key 3 _ _ (by decide) rfl, key 4 _ _ (by decide) rfl, key 5 _ _ (by decide) rfl, key 6 _ _ (by decide) rfl⟩
theorem laidAll_of {W : World} (h : laidMetH Tryd.prog laidL W) : LaidAll W := ⟨laidE_of h, laidU_of h, laidP_of h⟩

/-! ### A world for the witness -/
mutual
def dCells {H : Type} : DataW H → List Value
  | .lit (.int k n) => [.int k n]
  | .lit (.string l) => [.string ⟨l.toArray⟩]
  | .lit (.bool b) => [.bool b]
  | .agg l => dCellsL l
  | _ => []
def dCellsL {H : Type} : List (DataW H) → List Value
  | [] => []
  | d :: r => dCells d ++ dCellsL r
end
def laidCells (x : String × DataW Unit) : List Value := if x.2.handleName?.isSome then [.iface 77 (.agg #[.pointer (some ⟨8, 24, none⟩)])] else dCells x.2
noncomputable def layOne (w : World) (x : String × DataW Unit) : World := match Tryd.prog.globalNamed x.1 with
  | none => w
  | some g => { w with heap := w.heap.modify g fun
      | .cells _ t frozen => .cells (laidCells x).toArray t frozen
      | o => o }
noncomputable def laidWorld (os : Os) : World := laidL.foldl layOne (World.holding Tryd.prog os ⟨#[], #[], []⟩)
theorem laidWorld_met (os : Os) (args : Array Value) : laidMetH Tryd.prog laidL ((laidWorld os).forCall (fun _ _ => 0) ⟨#[], args, []⟩).memory :=
  laidMetH_of_parts (laidMet_of_run' 8 (by kernel_rfl) (by kernel_rfl)) (by kernel_rfl)
end Go.Proofs.YtpjbllkifjhknaaDoor.Pr
