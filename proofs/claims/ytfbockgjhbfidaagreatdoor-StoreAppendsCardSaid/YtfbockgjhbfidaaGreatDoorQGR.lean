/- Texts of this session, cut down to what one claim needs and joined: Row, LbR. -/
import Derived.Test.YtfbockgjhbfidaaGreatDoorQPr0
import Derived.Deep.Slices
import Derived.WalkKit
import Derived.ProofKit
import Derived.OpenShut
import Derived.ShutString
import Derived.ChangeOld
import Derived.Below
import Derived.SizedLaws
import Derived.Test.YtfbockgjhbfidaaGreatDoorQGW
import Derived.Test.YtfbockgjhbfidaaGreatDoorQGLaid
import Derived.Test.YtfbockgjhbfidaaGreatDoorQGSort
import Derived.Test.YtfbockgjhbfidaaGreatDoorCards
import Derived.Test.YtfbockgjhbfidaaGreatDoorTie
import Derived.LaidSub
import Derived.LaidHandle
import Derived.Deep.DeepHandedRow
import Derived.Lib.LaidTab
import Derived.Lib.LaidU8
import Derived.SevenTiedAt
section
set_option linter.unusedVariables false
set_option linter.unusedSimpArgs false
namespace Go.Proofs.YtfbockgjhbfidaaGreatDoor.Pr
open Go.RowKit Go.Proofs.YtfbockgjhbfidaaGreatDoorW.PrintWords

/-- What reads as data of type t holds something of kind k. -/
structure RdK {α : Type} (P : Program) (k : Kd α) (t : TypeId) (wf : α → Prop) : Prop where
 rd : ∀ {H : Type} (enc : TypeId × Value → H) (W : World) (held : Bool) (fuel : Nat) (cs : List Value) (x : DataW H × List MemPlace), DataW.trod enc P W 0 (fun _ => true) held fuel t cs = some x → ∃ a, k.K W a cs ∧ wf a
 sz : P.cellsOf t = k.sz

theorem RdK.int {P : Program} {t : TypeId} {q : IntKind} (ht : P.underlying t = some (.int q)) (hc : P.cellsOf t = 1) : RdK P (Kd.int q) t (fun n => (Lit.int q n).wf = true) where
 rd := fun enc W held fuel cs x h => by
  obtain ⟨n, rfl, _, hw⟩ := DataW.trod_int ht h
  exact ⟨n, rfl, hw⟩
 sz := hc
theorem RdK.string {P : Program} {t : TypeId} (ht : P.underlying t = some .string) (hc : P.cellsOf t = 1) : RdK P Kd.string t (fun s => s.size ≤ maxLen) where
 rd := fun enc W held fuel cs x h => by
  obtain ⟨n, rfl, _, hw⟩ := DataW.trod_string ht h
  exact ⟨n, rfl, hw⟩
 sz := hc
theorem RdK.iso {P : Program} {t : TypeId} {α β : Type} {d : Kd α} {wf : α → Prop} (h : RdK P d t wf) (f : β → α) (g : α → β) (fg : ∀ a, f (g a) = a) : RdK P (Kd.iso d f) t (fun b => wf (f b)) where
 rd := fun enc W held fuel cs x hh => by
  obtain ⟨a, ha, hw⟩ := h.rd enc W held fuel cs x hh
  exact ⟨g a, by show d.K W (f (g a)) cs; rw [fg]; exact ha, by rw [fg]; exact hw⟩
 sz := h.sz
theorem RdK.pair {P : Program} {t : TypeId} {α β : Type} {a : Kd α} {b : Kd β} {w0 : α → Prop} {w1 : β → Prop} {f0 f1 : Field} (ht : P.underlying t = some (.struct #[f0, f1])) (o0 : f0.offset = 0) (h0 : RdK P a f0.type w0) (h1 : RdK P b f1.type w1) (o1 : f1.offset = a.sz) (hc : P.cellsOf t = a.sz + b.sz) : RdK P (Kd.pair a b) t (fun x => w0 x.1 ∧ w1 x.2) where
 rd := fun enc W held fuel cs x h => by
  obtain ⟨y0, y1, n, _, hl, t0, t1⟩ := Go.ChangeShapes.trod_struct2 ht h
  obtain ⟨x0, k0, g0⟩ := h0.rd enc W held _ _ _ t0
  obtain ⟨x1, k1, g1⟩ := h1.rd enc W held _ _ _ t1
  refine ⟨(x0, x1), ⟨_, _, ?_, k0, k1⟩, g0, g1⟩
  rw [o0, o1, h0.sz, h1.sz, List.drop_zero]
  rw [hc] at hl
  rw [List.take_of_length_le (l := cs.drop a.sz) (by rw [List.length_drop]; omega), List.take_append_drop]
 sz := hc
theorem RdK.slice {P : Program} {t e : TypeId} {α : Type} [Inhabited α] {d : Kd α} {wf : α → Prop} (ht : P.underlying t = some (.slice e)) (hc : P.cellsOf t = 1) (h : RdK P d e wf) : RdK P (Kd.slice e d) t (fun l => l.length ≤ maxLen ∧ ∀ x ∈ l, wf x) where
 rd := fun enc W held fuel cs x hh => by
  rcases Go.Deep.open_slice ht hh with ⟨rfl, _⟩ | ⟨a, len, cap, m, n, D, Pl, rfl, hb, hl, hm, hmm, hx, hel⟩
  ·exact ⟨[], ⟨none, 0, rfl, Nat.le_refl _, rfl, by simp, fun h => absurd h (by simp)⟩, by simp [maxLen], fun _ h => by cases h⟩
  ·have hel' : ∀ i, i < len → ∃ y : α, ∃ cs', W.cells? 0 (a.add (i * P.cellsOf e)) (P.cellsOf e) = some cs' ∧ d.K W y cs' ∧ wf y := by
    intro i hi
    obtain ⟨cs', h1, h2⟩ := hel i (by rw [hmm]; simp only [if_true]; omega)
    obtain ⟨y, k0, k1⟩ := h.rd enc W held _ _ _ h2
    exact ⟨y, cs', h1, k0, k1⟩
   obtain ⟨f, hf⟩ := Go.Deep.choose_lt hel'
   have hlen : ((List.range len).map f).length = len := by simp
   refine ⟨(List.range len).map f, ⟨some a, cap, by rw [hlen], by rw [hlen]; exact hl, hlen.symm ▸ rfl, by rw [hlen]; have : maxLen = 9223372036854775807 := rfl; omega, fun h0 => ⟨a, rfl, ?_⟩⟩, by rw [hlen]; omega, ?_⟩
   ·intro j p hj
    obtain ⟨hjl, rfl⟩ : ∃ hj : j < len, f j = p := by
     have hjl : j < len := by
      rcases Nat.lt_or_ge j len with h' | h'
      ·exact h'
      ·rw [List.getElem?_eq_none (by simpa using h')] at hj; cases hj
     exact ⟨hjl, by simpa [hjl] using hj⟩
    obtain ⟨cs', h1, h2, _⟩ := hf j hjl
    refine ⟨cs', d.K_len h2, h2, ?_⟩
    obtain ⟨_, h4, h5⟩ := World.cells?_some h1
    intro i u hu
    have hi : i < cs'.length := by
     rcases Nat.lt_or_ge i cs'.length with h' | h'
     ·exact h'
     ·rw [List.getElem?_eq_none h'] at hu; cases hu
    have := h5 i (by omega)
    rw [Go.Deep.add_add, h.sz, hu] at this
    exact this
   ·intro x hx
    obtain ⟨i, hi, rfl⟩ := List.mem_map.1 hx
    obtain ⟨_, _, _, h3⟩ := hf i (List.mem_range.1 hi)
    exact h3
 sz := hc

end Go.Proofs.YtfbockgjhbfidaaGreatDoor.Pr
end

section
set_option linter.unusedVariables false
set_option linter.unusedSimpArgs false
namespace Go.Proofs.YtfbockgjhbfidaaGreatDoor.Pr
open Go.ChangeShapes Go.WideShapes Go.ChangeAt Go.RowKit Go.Proofs.YtfbockgjhbfidaaGreatDoorW.PrintWords

theorem laidOwn : ownKnob Tryz.prog.godebug = none := by kernel_rfl
theorem laidOut : laidOutB Tryz.prog = true := by kernel_rfl
/-- The rows' list. -/
def laidL : List (String × DataW Unit) := Rows.storeAppendsRow.laid
theorem gErr : Tryz.prog.globalNamed "errors.errorType" = some 0 := by kernel_rfl
theorem gFirst : Tryz.prog.globalNamed "unicode/utf8.first" = some 2 := by kernel_rfl
theorem gAcc : Tryz.prog.globalNamed "unicode/utf8.acceptRanges" = some 3 := by kernel_rfl
theorem tFirst : (Tryz.prog.globals[2]?).map (·.type) = some 135 := by kernel_rfl
theorem tAcc : (Tryz.prog.globals[3]?).map (·.type) = some 138 := by kernel_rfl
theorem cByte : Tryz.prog.cellsOf 5 = 1 := by kernel_rfl
theorem cFirst : Tryz.prog.cellsOf 135 = 256 := by kernel_rfl
theorem cAcc : Tryz.prog.cellsOf 137 = 2 := by kernel_rfl
theorem rtHandle : (Tryz.prog.cutTypes.find? (·.1 == "internal/reflectlite.rtype")).map (·.2) = some 99 := by kernel_rfl
theorem handleFilter : (laidL.filter fun x => x.2.handleName?.isSome) = [("errors.errorType", Rows.laid_errors_errorType)] := by kernel_rfl
theorem tabFilter : (laidL.filter fun x => x.2.handleName?.isNone) = [("unicode/utf8.acceptRanges", Lib.acceptData), ("unicode/utf8.first", Lib.firstData)] := by kernel_rfl
theorem errRows : ((List.range 272).filter fun t => Tryz.prog.rowNamed t [101, 114, 114, 111, 114]) = [32] := by kernel_rfl
theorem typesSize : decide (Tryz.prog.types.size ≤ 272) = true := by kernel_rfl
theorem errHandle : typeHandle Tryz.prog 32 = .pointer (some ⟨5, 32, none⟩) := by kernel_rfl

theorem laidE_of {W : World} (h : laidMetH Tryz.prog laidL W) : LaidE W := by
 have h2 := (laidMetH_iff.1 h).2
 rw [handleFilter] at h2
 obtain ⟨name, u, ty, e1, e2, e3, e4, e5⟩ := h2 _ (List.mem_singleton.2 rfl)
 have en : name = [101, 114, 114, 111, 114] := (Option.some.inj e1).symm
 subst en
 obtain rfl := Option.some.inj (rtHandle.symm.trans e2)
 have hm : ty ∈ (List.range 272).filter fun t => Tryz.prog.rowNamed t [101, 114, 114, 111, 114] := List.mem_filter.2 ⟨List.mem_range.2 (Nat.lt_of_lt_of_le e3 (of_decide_eq_true typesSize)), e4⟩
 rw [errRows] at hm
 obtain rfl := List.mem_singleton.1 hm
 rw [errHandle] at e5
 simpa [LaidE] using World.var?_cell gErr e5 0
theorem laidV_of {W : World} (h : laidMetH Tryz.prog laidL W) : LaidV W := by
 have h2 := (laidMetH_iff.1 h).1
 rw [tabFilter] at h2
 have r1 := Lib.laidMet.reads h2 (List.Mem.tail _ (List.Mem.head _))
 have r2 := Lib.laidMet.reads h2 (List.Mem.head _)
 obtain ⟨a, ta, ca, fa, pa, n1, y1, v1, d1⟩ := r1
 obtain ⟨b, tb, cb, fb, pb, n2, y2, v2, d2⟩ := r2
 obtain rfl := Option.some.inj (gFirst.symm.trans n1)
 obtain rfl := Option.some.inj (tFirst.symm.trans y1)
 obtain rfl := Option.some.inj (gAcc.symm.trans n2)
 obtain rfl := Option.some.inj (tAcc.symm.trans y2)
 have hca := Lib.cells_of_tab Tryz.underlying135 Tryz.underlying5 cByte cFirst d1
 constructor
 ·intro c hc
  have hcell := World.var?_cell n1 v1 c
  have hget : ca.toList[c]? = some (.int .u8 (Lib.firstT c)) := by rw [hca]; simp [Lib.firstTab, hc]
  rw [Array.getElem?_toList] at hget
  exact hcell.trans hget
 ·intro i hi
  obtain ⟨f2, d, q, hdi, he⟩ := Lib.array_elem Tryz.underlying138 d2 i hi
  have hdd : d = .agg ([(Lib.accLo i : Int), (Lib.accHi i : Int)].map fun z => .lit (.int .u8 z)) := by
   rw [List.getElem?_map, List.getElem?_range hi] at hdi
   exact (Option.some.inj hdi).symm
  rw [hdd, cAcc] at he
  have hints := Lib.ints_of_struct Tryz.underlying137 (fun j f hj => by
   match j, hj with
   | 0, hj => (have := Option.some.inj hj; subst this; exact ⟨Tryz.underlying5, rfl, cByte⟩)
   | 1, hj => (have := Option.some.inj hj; subst this; exact ⟨Tryz.underlying5, rfl, cByte⟩)
   | j + 2, hj => (exfalso; simp at hj)) cAcc he
  have g0 : cb.toList[2 * i]? = some (.int .u8 (Lib.accLo i)) := by
   have := congrArg (·[0]?) hints
   simpa [List.getElem?_take, List.getElem?_drop, Nat.mul_comm] using this
  have g1 : cb.toList[2 * i + 1]? = some (.int .u8 (Lib.accHi i)) := by
   have := congrArg (·[1]?) hints
   simpa [List.getElem?_take, List.getElem?_drop, Nat.mul_comm] using this
  rw [Array.getElem?_toList] at g0 g1
  exact ⟨(World.var?_cell n2 v2 (2 * i)).trans g0, (World.var?_cell n2 v2 (2 * i + 1)).trans g1⟩
theorem laidAll_of {W : World} (h : laidMetH Tryz.prog laidL W) : LaidAll W := ⟨laidE_of h, laidV_of h⟩

/-! ### A world for the witness -/
mutual
def dCells {H : Type} : DataW H → List Value
 | .lit (.int k n) => [.int k n]
 | .lit (.string l) => [.string ⟨l.toArray⟩]
 | .lit (.bool b) => [.bool b]
 | .agg l => dCellsL l
 | _ => []
def dCellsL {H : Type} : List (DataW H) → List Value
 | [] => []
 | d :: r => dCells d ++ dCellsL r
end
def laidCells (x : String × DataW Unit) : List Value := if x.2.handleName?.isSome then [.iface 99 (.agg #[.pointer (some ⟨5, 32, none⟩)])] else dCells x.2
noncomputable def layOne (w : World) (x : String × DataW Unit) : World := match Tryz.prog.globalNamed x.1 with
 | none => w
 | some g => { w with heap := w.heap.modify g fun
   | .cells _ t frozen => .cells (laidCells x).toArray t frozen
   | o => o }
noncomputable def laidWorld (os : Os) : World := laidL.foldl layOne (World.holding Tryz.prog os ⟨#[], #[], []⟩)
set_option maxRecDepth 100000 in
theorem laidWorld_met (os : Os) (args : Array Value) : laidMetH Tryz.prog laidL ((laidWorld os).forCall (fun _ _ => 0) ⟨#[], args, []⟩).memory :=
 laidMetH_of_parts (laidMet_of_run' 8 (by kernel_rfl) (by kernel_rfl)) (by kernel_rfl)

/-! ### Rows as data -/
theorem rdk44 : RdK Tryz.prog k44 44 (fun x => x.f0.size ≤ maxLen ∧ x.f1.size ≤ maxLen) :=
 RdK.iso (RdK.pair Tryz.underlying44 rfl (RdK.string Tryz.underlying9 (by kernel_rfl)) (RdK.string Tryz.underlying9 (by kernel_rfl)) rfl (by kernel_rfl)) (fun x : S44 => (x.f0, x.f1)) (fun p => ⟨p.1, p.2⟩) (fun _ => rfl)
theorem rdk23 : RdK Tryz.prog (Kd.slice 44 k44) 23 (fun l => l.length ≤ maxLen ∧ ∀ x ∈ l, x.f0.size ≤ maxLen ∧ x.f1.size ≤ maxLen) :=
 RdK.slice Tryz.underlying23 (by kernel_rfl) rdk44
end Go.Proofs.YtfbockgjhbfidaaGreatDoor.Pr
end
