/- Texts of this session, cut down to what one claim needs and joined: StIns0. -/
import Derived.Test.YtfbockgjhbfidaaGreatDoorQGSt0
import Derived.Test.YtfbockgjhbfidaaGreatDoorQGDel
import Derived.Laws.IdiomCopy
import Derived.Lib.AppendZeros
import Derived.Lib.Overlaps
set_option linter.unusedVariables false
set_option linter.unusedSimpArgs false
namespace Go.Proofs.YtfbockgjhbfidaaGreatDoor.Pr
open Go.RowKit Go.Proofs.YtfbockgjhbfidaaGreatDoorW.PrintWords Go.Proofs.YtfbockgjhbfidaaGreatDoorW.PrintLast Go.Proofs.YtfbockgjhbfidaaGreatDoorW.PrintMore

section
variable {P : Program}
theorem run_copy_sz (w : World) (dT sT ty elem : TypeId) (b o dLen dCap : Nat) (a : Addr) (sLen sCap : Nat) (cs : List Value) (size m : Nat)
  (hu : P.underlying dT = some (.slice elem)) (hs : (P.info? elem).map (·.size) = some size) (hm : Nat.min sLen dLen = m) (hn : cs.length = m * size)
  (hsrc : ∀ j v, cs[j]? = some v → w.cell? (a.add j) = some v) (hc : ∀ j, j < cs.length → (w.cell? ⟨b, o + j, none⟩).isSome = true) (hf : ∀ j, j < cs.length → w.frozen? ⟨b, o + j, none⟩ = false) (h1 : ∀ v ∈ cs, v.oneCell' = true) :
  (Builtin.copy_ #[dT, sT] ty #[.slice (some ⟨b, o, none⟩) dLen dCap, .slice (some a) sLen sCap]).run P w = .ok (goInt m) (w.setCells b o cs) := by
 have hl := run_loadCells_list (P := P) w a cs hsrc
 have hst := run_storeCells_cells (P := P) b o cs 0 w (by simpa using hc) (by simpa using hf) h1
 cases hq : P.info? elem with
 | none => simp [hq] at hs
 | some i =>
  have hi : i.size = size := by simpa [hq] using hs
  simp [Builtin.copy_, run_underlying hu, Builtin.lenOf, Builtin.firstCells, sizeOf, typeInfo, hq, hi, hm, ← hn, hl, hst]
theorem wpList_copy_run (w : World) {ops : Array Oper} {rest : List Oper} {o : Oper} {a : Act} {Q : Exit → Act → World → Prop} (hgd : o.guard = none) (d s : Operand) (t t' : TypeId)
  (ho : o.op = .call { callee := .builtin .copy, args := #[d, s], argTypes := #[t, t'] }) (v u : Value) (hd : a.eval d = v) (hs : a.eval s = u) {v' : Value} {w' : World}
  (hr : (Builtin.copy_ #[t, t'] o.type #[v, u]).run P w = .ok v' w') (h : wpList P ops Q rest (a.put o.dst v') w') : wpList P ops Q (o :: rest) a w := by
 refine wpList_plain hgd fun K hK => ?_
 unfold Oper.wp execOp
 simp only [ho, resolve, invoke, builtin, Sem.run_bind, Sem.run_pure, Result.andThen_ok, List.map_toArray, List.map_cons, List.map_nil, hd, hs, hr]
 exact hK _ _ h
/-- append(s[:k], make([]T, m)...) where there is no room: a new row: what s[:k] holds, then noughts. -/
theorem run_append_made (w : World) (t tn ty e : TypeId) (i : TypeInfo) (z : Value) (kn : IntKind) (ht : P.underlying t = some (.slice e)) (htn : P.underlying tn = some (.int kn)) (hi : P.info? e = some i) (hz : i.zero = some z)
  (g k cap m : Nat) (old : List Value) (hol : old.length = k * i.size) (hold : ∀ j u, old[j]? = some u → w.cell? ((⟨g, 0, none⟩ : Addr).add j) = some u)
  (h0 : 0 < m) (hs : 0 < i.size) (hgrow : cap < k + m) (h63 : k + m ≤ 9223372036854775807) (h47 : (k + m) * i.bytes ≤ 140737488355328) :
  (Builtin.append_ #[t, tn] ty #[.slice (some ⟨g, 0, none⟩) k cap, .int kn m]).run P w =
   .ok (.slice (some ⟨w.heap.size, 0, none⟩) (k + m) (grownCap w (k + m) cap e)) (w.drew.alloc (.cells (old.toArray ++ Builtin.zeroCells z.cells m ++ Builtin.zeroCells z.cells (grownCap w (k + m) cap e - (k + m))) e)) := by
 have hl := run_loadCells_list (P := P) w.drew ⟨g, 0, none⟩ old (fun j u hu => by rw [← hold j u hu]; rfl)
 have hm : m ≠ 0 := by omega
 have hw : IntKind.i64.wrap (m : Int) = m := IntWalk.i64_in _ (by omega)
 have hneg : ¬ ((m : Int) < 0) := by omega
 have hns : ¬ (m * i.size = 0) := Nat.mul_ne_zero hm (by omega)
 have hfit := growslice_fits hgrow h47
 have h48 : ¬ (281474976710656 < Builtin.nextslicecap (k + m) cap * i.bytes) := by omega
 have h63' : ¬ (9223372036854775807 < (k : Int) + (m : Int)) := by omega
 have hmb : m * i.bytes ≤ (k + m) * i.bytes := Nat.mul_le_mul_right _ (by omega)
 have h48i : ¬ (281474976710656 < (m : Int) * (i.bytes : Int)) := by rw [← Int.natCast_mul]; omega
 have hc : ¬ (k + m ≤ cap) := by omega
 simp [Builtin.append_, run_underlying ht, run_underlying htn, sizeOf, typeInfo, zeroValue, hi, hz, asInt, asIntOf, hw, hm, hneg, hns, hc, h63', h48, h48i, Question.forced, Builtin.firstCells, ← hol, hl, newRow, grownCap]
theorem cut_over (t e : TypeId) (kh : IntKind) {i : TypeInfo} (ht : P.underlying t = some (.slice e)) (hi : P.info? e = some i) (A : Option Addr) (n c : Nat) (j : Int) (h0 : 0 ≤ j) (hm : j ≤ c) :
  ∀ W : World, (Instr.slice t (.slice A n c) none (some (.int kh j)) none).run P W = .ok (.slice A j.toNat c) W := by
 intro W
 have hel : P.elem t = e := by simp [Program.elem, ht]
 have hu : P.underlying t = some (.slice (P.elem t)) := by rw [hel]; exact ht
 have ha : (A.map fun x => x.add 0) = A := by cases A <;> simp [Addr.add]
 rw [run_slice_h W t A n c hu kh j h0 (by omega), hel]
 simp [sizeOf, typeInfo, hi, sliced, Result.andThen, ha]
end
/-! ### Rows put together -/
section
variable {α : Type} {R : α → List Value → Prop} {sz : Nat}
theorem Reps_tk {l : List α} {c : List Value} (h : Reps R sz l c) (i : Nat) (hi : i ≤ l.length) : Reps R sz (l.take i) (c.take (i * sz)) := by
 have hm : i * sz ≤ l.length * sz := Nat.mul_le_mul_right _ hi
 refine ⟨by rw [List.length_take, List.length_take, h.1, Nat.min_eq_left hi, Nat.min_eq_left hm], fun j p hj => ?_⟩
 have hji : j < i := by
  rcases Nat.lt_or_ge j i with h' | h'
  ·exact h'
  ·rw [List.getElem?_eq_none (by rw [List.length_take]; omega)] at hj; cases hj
 have hj2 : l[j]? = some p := by rw [List.getElem?_take, if_pos hji] at hj; exact hj
 have hjm : j * sz + sz ≤ i * sz := by rw [← Nat.succ_mul]; exact Nat.mul_le_mul_right _ hji
 rw [List.drop_take, List.take_take, Nat.min_eq_left (by omega)]
 exact h.2 j p hj2
theorem Reps_dp {l : List α} {c : List Value} (h : Reps R sz l c) (i : Nat) : Reps R sz (l.drop i) (c.drop (i * sz)) := by
 refine ⟨by rw [List.length_drop, List.length_drop, h.1, Nat.sub_mul], fun j p hj => ?_⟩
 rw [List.getElem?_drop] at hj
 rw [List.drop_drop, ← Nat.add_mul]
 exact h.2 (i + j) p hj
theorem Reps_app {a b : List α} {ca cb : List Value} (ha : Reps R sz a ca) (hb : Reps R sz b cb) : Reps R sz (a ++ b) (ca ++ cb) := by
 refine ⟨by rw [List.length_append, List.length_append, ha.1, hb.1, Nat.add_mul], fun j p hj => ?_⟩
 by_cases h : j < a.length
 ·rw [List.getElem?_append_left h] at hj
  have hjm : j * sz + sz ≤ a.length * sz := by rw [← Nat.succ_mul]; exact Nat.mul_le_mul_right _ h
  rw [List.drop_append_of_le_length (by rw [ha.1]; omega), List.take_append_of_le_length (by rw [List.length_drop, ha.1]; omega)]
  exact ha.2 j p hj
 ·rw [List.getElem?_append_right (by omega)] at hj
  have e : j * sz = ca.length + (j - a.length) * sz := by rw [ha.1, ← Nat.add_mul]; congr 1; omega
  rw [e, List.drop_append, List.drop_eq_nil_of_le (by omega), List.nil_append, Nat.add_sub_cancel_left]
  exact hb.2 (j - a.length) p hj
theorem Reps_one {x : α} {c : List Value} (hx : R x c) (hc : c.length = sz) : Reps R sz [x] c := by
 refine ⟨by simp [hc], fun j p hj => ?_⟩
 cases j with
 | zero =>
  obtain rfl : x = p := by simpa using hj
  rw [Nat.zero_mul, List.drop_zero, List.take_of_length_le (by omega)]
  exact hx
 | succ j => simp at hj
end
/-- A row of the call's own, cell for cell, is one. -/
theorem R_of_cells {W : Rel} {w : World} {B g n cap : Nat} {l : List S47} {cur : Array Value} (hh : w.heap[g]? = some (.cells cur 47 (0, 0))) (hB : B ≤ g) (hn : n = l.length) (hnc : n ≤ cap) (hcm : cap ≤ maxLen) (hcs : cur.size = cap * 2) {inner : List Value} (hr : Reps W.R 2 l inner) (ht : cur.toList.take (n * 2) = inner) :
  Kd.R (kS W) 47 w B (fun _ => True) (.slice (some ⟨g, 0, none⟩) n cap) l := by
 subst hn
 have hil : inner.length = l.length * 2 := hr.1
 exact ⟨fun _ _ => trivial, inner, ⟨hil, .inr ⟨g, cap, cur, rfl, hB, hh, hnc, hcm, hcs, ht⟩⟩, hr⟩
end Go.Proofs.YtfbockgjhbfidaaGreatDoor.Pr
