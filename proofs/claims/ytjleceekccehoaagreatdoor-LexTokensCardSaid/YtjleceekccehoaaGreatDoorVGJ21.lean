/- Texts of this session, cut down to what one claim needs and joined: AsF, LexF, PrEq41, LexAw, LexR. -/
import Derived.Test.YtjleceekccehoaaGreatDoorVGAs
import Derived.Test.YtjleceekccehoaaGreatDoorVGJ0
import Derived.Test.YtjleceekccehoaaGreatDoorVGJ20
import Derived.BigQuiet
import Derived.Test.YtjleceekccehoaaGreatDoorVGJ13
section
set_option linter.unusedVariables false
set_option linter.unusedSimpArgs false
namespace Go.Proofs.YtjleceekccehoaaGreatDoor.Pr
open Go.RowKit Go.Extern.Stop Go.Stop Go.Extern Go.Proofs.YtjleceekccehoaaGreatDoorW.PrintWords

/-! ### CLOSED FACTS ON THE MODEL's ENTRIES FOR internal/reflectlite, at this program's types: 25: *p.E · 27: **p.E · 23: error · 45: reflectlite's rtype · 1: how many package-level variables the dump has -/
theorem Asf.valueOf27 (t : Addr) (w : World) : (ReflectliteValue.unpack (.iface 94 (.pointer (some t)))).run Tryz.prog w
  = .ok (.agg #[.pointer (some ⟨22, 94, none⟩), .pointer (some ⟨w.heap.size, 0, none⟩), .int .u64 150]) (w.alloc (.cells #[.pointer (some t)] 94)) := by kernel_rfl
theorem Asf.type27 (a : Addr) (w : World) : (ReflectliteValue.methodAny (ReflectliteValue.valueError "reflectlite.Value.Type" 0) (fun t _ _ _ => ReflectliteType.toType t) #[.agg #[.pointer (some ⟨22, 94, none⟩), .pointer (some a), .int .u64 150]]).run Tryz.prog w
  = .ok (.iface 110 (.agg #[.pointer (some ⟨22, 94, none⟩)])) w := by kernel_rfl
theorem Asf.methodKind (h : Value) (w : World) : (Go.method 394 110 (.agg #[h]) "Kind").run Tryz.prog w = .ok (202, h) w := by kernel_rfl
theorem Asf.kind27 (w : World) : ((ReflectliteType.abiMethod fun t => (fun a : Nat => Value.int IntKind.u8 (a : Int)) <$> Rtype.kind t) #[.pointer (some ⟨22, 94, none⟩)]).run Tryz.prog w = .ok (.int .u8 22) w := by kernel_rfl
theorem Asf.kind25 (w : World) : ((ReflectliteType.abiMethod fun t => (fun a : Nat => Value.int IntKind.u8 (a : Int)) <$> Rtype.kind t) #[.pointer (some ⟨22, 61, none⟩)]).run Tryz.prog w = .ok (.int .u8 22) w := by kernel_rfl

/-! ### THE ENTRIES THAT READ OR WRITE MEMORY: laws with a premise on the cell (after Derived/Lib/ReflectliteSlice.lean's manner: each unfolding a lemma of its own, by rfl) -/
theorem Asf.parts27 (a : Addr) (w : World) : (ReflectliteValue.parts (.agg #[.pointer (some ⟨22, 94, none⟩), .pointer (some a), .int .u64 150])).run Tryz.prog w = .ok (some (94, a, 150)) w := by kernel_rfl
/-- (Value).IsNil at the Value of a **p.E that is not nil. -/
theorem Asf.isNil27 (a p : Addr) (W : World) (ha : W.cell? a = some (.pointer (some p))) :
  (ReflectliteValue.method (ReflectliteValue.valueError "reflectlite.Value.IsNil" 0) ReflectliteValue.isNil #[.agg #[.pointer (some ⟨22, 94, none⟩), .pointer (some a), .int .u64 150]]).run Tryz.prog W = .ok (.bool false) W := by
 rw [rlm]
 simp only [Sem.run_bind, Asf.parts27, Result.andThen]
 simp [ReflectliteValue.isNil, loadVar, isAgg, underlying, Tryz.underlying94, ha, Result.andThen]

theorem Asf.methodElem (h : Value) (w : World) : (Go.method 394 110 (.agg #[h]) "Elem").run Tryz.prog w = .ok (214, .agg #[h]) w := by kernel_rfl
theorem Asf.methodImplements (h : Value) (w : World) : (Go.method 394 110 (.agg #[h]) "Implements").run Tryz.prog w = .ok (215, .agg #[h]) w := by kernel_rfl
theorem Asf.methodAssignableTo (h : Value) (w : World) : (Go.method 394 110 (.agg #[h]) "AssignableTo").run Tryz.prog w = .ok (212, .agg #[h]) w := by kernel_rfl
theorem Asf.elem27 (w : World) : (ReflectliteType.method ReflectliteType.elem #[.agg #[.pointer (some ⟨22, 94, none⟩)]]).run Tryz.prog w = .ok (.iface 110 (.agg #[.pointer (some ⟨22, 61, none⟩)])) w := by kernel_rfl
theorem Asf.implements25 (w : World) : (ReflectliteType.relation "Implements" ReflectliteType.implements_ #[.agg #[.pointer (some ⟨22, 61, none⟩)], .iface 110 (.agg #[.pointer (some ⟨22, 31, none⟩)])]).run Tryz.prog w = .ok (.bool true) w := by kernel_rfl
theorem Asf.typeOf25 (v : Value) (w : World) : (ReflectliteType.typeOf #[.iface 61 v]).run Tryz.prog w = .ok (.iface 110 (.agg #[.pointer (some ⟨22, 61, none⟩)])) w := by kernel_rfl
theorem Asf.assignable25 (w : World) : (ReflectliteType.relation "AssignableTo" ReflectliteType.assignableTo #[.agg #[.pointer (some ⟨22, 61, none⟩)], .iface 110 (.agg #[.pointer (some ⟨22, 61, none⟩)])]).run Tryz.prog w = .ok (.bool true) w := by kernel_rfl
theorem Asf.valueOf25 (e : Addr) (w : World) : (ReflectliteValue.unpack (.iface 61 (.pointer (some e)))).run Tryz.prog w
  = .ok (.agg #[.pointer (some ⟨22, 61, none⟩), .pointer (some ⟨w.heap.size, 0, none⟩), .int .u64 150]) (w.alloc (.cells #[.pointer (some e)] 61)) := by kernel_rfl

theorem Asf.elemOf27 (w : World) : (Rtype.elem? 94).run Tryz.prog w = .ok (some 61) w := by kernel_rfl
theorem Asf.mk25 (p : Addr) (w : World) : (ReflectliteValue.mk 61 p ReflectliteValue.flagAddr).run Tryz.prog w = .ok (.agg #[.pointer (some ⟨22, 61, none⟩), .pointer (some p), .int .u64 406]) w := by kernel_rfl
/-- (Value).Elem at the Value of a **p.E that is not nil: the Value of the *p.E variable that it points to, addressable. -/
theorem Asf.elemV27 (a p : Addr) (W : World) (ha : W.cell? a = some (.pointer (some p))) :
  (ReflectliteValue.method (ReflectliteValue.valueError "reflectlite.Value.Elem" 0) ReflectliteValue.elem #[.agg #[.pointer (some ⟨22, 94, none⟩), .pointer (some a), .int .u64 150]]).run Tryz.prog W
   = .ok (.agg #[.pointer (some ⟨22, 61, none⟩), .pointer (some p), .int .u64 406]) W := by
 rw [rlm]
 simp only [Sem.run_bind, Asf.parts27, Result.andThen]
 simp [ReflectliteValue.elem, loadVar, isAgg, underlying, Tryz.underlying94, ha, Result.andThen, Asf.elemOf27, Asf.mk25]
theorem Asf.parts25a (a : Addr) (w : World) : (ReflectliteValue.parts (.agg #[.pointer (some ⟨22, 61, none⟩), .pointer (some a), .int .u64 406])).run Tryz.prog w = .ok (some (61, a, 406)) w := by kernel_rfl
theorem Asf.parts25 (a : Addr) (w : World) : (ReflectliteValue.parts (.agg #[.pointer (some ⟨22, 61, none⟩), .pointer (some a), .int .u64 150])).run Tryz.prog w = .ok (some (61, a, 150)) w := by kernel_rfl
theorem Asf.direct25 (w : World) : (Rtype.directlyAssignable 61 61).run Tryz.prog w = .ok true w := by kernel_rfl
/-- (Value).Set: the *p.E variable at 'ta' gets what the Value's own variable 'b' holds. -/
theorem Asf.set25 (ta b e : Addr) (old : Value) (W : World) (hb : W.cell? b = some (.pointer (some e))) (ht : W.cell? ta = some old) (hf : W.frozen? ta = false) :
  (ReflectliteValue.set #[.agg #[.pointer (some ⟨22, 61, none⟩), .pointer (some ta), .int .u64 406], .agg #[.pointer (some ⟨22, 61, none⟩), .pointer (some b), .int .u64 150]]).run Tryz.prog W
   = .ok (.tuple #[]) (W.setCell ta (.pointer (some e))) := by
 rw [rls]
 simp only [Sem.run_bind, Asf.parts25a, Asf.parts25, Result.andThen]
 simp [ReflectliteValue.flagAddr, loadVar, isAgg, underlying, Tryz.underlying61, hb, Result.andThen, Asf.direct25, storeVar, Value.cells, storeCells, Addr.add]
 rw [run_store Tryz.prog W ta _ _ (by rfl)]
 simp [ht, hf]

set_option maxHeartbeats 4000000 in
theorem as_hitF (e t : Addr) (old : Value) (w : World) (hg : w.cell? ⟨1, 0, none⟩ = some (.iface 110 (.agg #[.pointer (some ⟨22, 31, none⟩)]))) (ht0 : w.cell? t = some old) (hf0 : w.frozen? t = false) :
  Calls Tryz.prog 35 #[.iface 61 (.pointer (some e)), .iface 94 (.pointer (some t))] w fun ev w' => ev = .returned (.bool true) ∧ w' = ((((w.alloc (.cells #[.pointer (some t)] 94)).alloc (.cells #[.pointer (some ⟨22, 94, none⟩), .pointer (some ⟨w.heap.size, 0, none⟩), .int .u64 150] 85)).alloc (.cells #[.pointer (some ⟨22, 94, none⟩), .pointer (some ⟨w.heap.size, 0, none⟩), .int .u64 150] 85)).alloc (.cells #[.pointer (some e)] 61)).setCell t (.pointer (some e)) := by
 have h6 := @run_callFunc_extern Tryz.prog 57 _ (fun args => ReflectliteValue.unpack (args.getD 0 (.tuple #[]))) Tryz.func57 (by kernel_rfl) (by kernel_rfl) (by kernel_rfl) (by kernel_rfl)
 have h7 := @run_callFunc_extern Tryz.prog 58 _ (ReflectliteValue.methodAny (ReflectliteValue.valueError "reflectlite.Value.Type" 0) (fun t _ _ _ => ReflectliteType.toType t)) Tryz.func58 (by kernel_rfl) (by kernel_rfl) (by kernel_rfl) (by kernel_rfl)
 have h8 := @run_callFunc_extern Tryz.prog 59 _ (ReflectliteValue.method (ReflectliteValue.valueError "reflectlite.Value.IsNil" 0) ReflectliteValue.isNil) Tryz.func59 (by kernel_rfl) (by kernel_rfl) (by kernel_rfl) (by kernel_rfl)
 have h27 := @run_callFunc_extern Tryz.prog 202 _ (ReflectliteType.abiMethod fun t => do pure (.int .u8 (← Rtype.kind t))) Tryz.func202 (by kernel_rfl) (by kernel_rfl) (by kernel_rfl) (by kernel_rfl)
 have h37 := @run_callFunc_extern Tryz.prog 214 _ (ReflectliteType.method ReflectliteType.elem) Tryz.func214 (by kernel_rfl) (by kernel_rfl) (by kernel_rfl) (by kernel_rfl)
 have h38 := @run_callFunc_extern Tryz.prog 215 _ (ReflectliteType.relation "Implements" ReflectliteType.implements_) Tryz.func215 (by kernel_rfl) (by kernel_rfl) (by kernel_rfl) (by kernel_rfl)
 have h10 := @run_callFunc_extern Tryz.prog 82 _ ReflectliteType.typeOf Tryz.func82 (by kernel_rfl) (by kernel_rfl) (by kernel_rfl) (by kernel_rfl)
 have h35 := @run_callFunc_extern Tryz.prog 212 _ (ReflectliteType.relation "AssignableTo" ReflectliteType.assignableTo) Tryz.func212 (by kernel_rfl) (by kernel_rfl) (by kernel_rfl) (by kernel_rfl)
 have h11 := @run_callFunc_extern Tryz.prog 83 _ (ReflectliteValue.method (ReflectliteValue.valueError "reflectlite.Value.Elem" 0) ReflectliteValue.elem) Tryz.func83 (by kernel_rfl) (by kernel_rfl) (by kernel_rfl) (by kernel_rfl)
 have h12 := @run_callFunc_extern Tryz.prog 84 _ ReflectliteValue.set Tryz.func84 (by kernel_rfl) (by kernel_rfl) (by kernel_rfl) (by kernel_rfl)
 have tO := Asf.typeOf25
 have mA := Asf.methodAssignableTo
 have a25 := Asf.assignable25
 have v25 := Asf.valueOf25
 have f6 := Asf.valueOf27
 have f7 := Asf.type27
 have mK := Asf.methodKind
 have mE := Asf.methodElem
 have mI := Asf.methodImplements
 have k27 := Asf.kind27
 have k25 := Asf.kind25
 have e27 := Asf.elem27
 have i25 := Asf.implements25
 have n8 := Asf.isNil27 ⟨w.heap.size, 0, none⟩ t ((w.alloc (.cells #[.pointer (some t)] 94)).alloc (.cells #[.pointer (some ⟨22, 94, none⟩), .pointer (some ⟨w.heap.size, 0, none⟩), .int .u64 150] 85)) (by simp)
 have hlt : 1 < w.heap.size := World.block_lt_of_cell? w _ hg
 have hg2 : ((w.alloc (.cells #[.pointer (some t)] 94)).alloc (.cells #[.pointer (some ⟨22, 94, none⟩), .pointer (some ⟨w.heap.size, 0, none⟩), .int .u64 150] 85)).cell? ⟨1, 0, none⟩ = some (.iface 110 (.agg #[.pointer (some ⟨22, 31, none⟩)])) := by
  rw [World.cell?_alloc_lt _ _ ⟨1, 0, none⟩ (by first | (simp; done) | (simp; omega)), World.cell?_alloc_lt _ _ ⟨1, 0, none⟩ hlt]; exact hg
 have htl : t.block < w.heap.size := by
  rcases Nat.lt_or_ge t.block w.heap.size with h | h
  ·exact h
  ·simp [World.cell?, Array.getElem?_eq_none h] at ht0
 have el := Asf.elemV27 ⟨w.heap.size, 0, none⟩ t (((w.alloc (.cells #[.pointer (some t)] 94)).alloc (.cells #[.pointer (some ⟨22, 94, none⟩), .pointer (some ⟨w.heap.size, 0, none⟩), .int .u64 150] 85)).alloc (.cells #[.pointer (some ⟨22, 94, none⟩), .pointer (some ⟨w.heap.size, 0, none⟩), .int .u64 150] 85)) (by rw [World.cell?_alloc_lt _ _ ⟨w.heap.size, 0, none⟩ (by simp; omega)]; simp)
 have st := Asf.set25 t ⟨w.heap.size + 1 + 1 + 1, 0, none⟩ e old ((((w.alloc (.cells #[.pointer (some t)] 94)).alloc (.cells #[.pointer (some ⟨22, 94, none⟩), .pointer (some ⟨w.heap.size, 0, none⟩), .int .u64 150] 85)).alloc (.cells #[.pointer (some ⟨22, 94, none⟩), .pointer (some ⟨w.heap.size, 0, none⟩), .int .u64 150] 85)).alloc (.cells #[.pointer (some e)] 61))
  (by rw [World.cell?_alloc_at _ _ _ _ (by simp)]; rfl)
  (by rw [World.cell?_alloc_lt _ _ t (by simp; omega), World.cell?_alloc_lt _ _ t (by simp; omega), World.cell?_alloc_lt _ _ t (by simp; omega), World.cell?_alloc_lt _ _ t htl]; exact ht0)
  (by rw [World.frozen?_alloc_old _ _ t (by simp; omega), World.frozen?_alloc_old _ _ t (by simp; omega), World.frozen?_alloc_old _ _ t (by simp; omega), World.frozen?_alloc_old _ _ t (Nat.ne_of_lt htl)]; exact hf0)
 go_enter Tryz.func35, Tryz.ntmps35
 go_wp2
 refine wp_loop_rounds 1 ?_
 rw [rounds_succ]
 go_wp2
 go_ret
 exact ⟨rfl, rfl⟩
theorem Asu.assignableF (w : World) : (ReflectliteType.relation "AssignableTo" ReflectliteType.assignableTo #[.agg #[.pointer (some ⟨22, 61, none⟩)], .iface 110 (.agg #[.pointer (some ⟨22, 55, none⟩)])]).run Tryz.prog w = .ok (.bool false) w := by kernel_rfl
theorem Asu.noAs (v : Value) (w : World) : (Instr.typeAssert (.iface 61 v) 31 115 true).run Tryz.prog w = .ok (.tuple #[.nilIface, .bool false]) w := run_typeAssert_lacksB Tryz.underlying115 (by kernel_rfl) (by kernel_rfl) v 31 w
theorem Asu.hasUnwrap (v : Value) (w : World) : (Instr.typeAssert (.iface 61 v) 31 118 true).run Tryz.prog w = .ok (.tuple #[.iface 61 v, .bool true]) w := run_typeAssert_hasB Tryz.underlying118 (by kernel_rfl) v 31 w
theorem Asu.methodUnwrap (h : Value) (w : World) : (Go.method 394 61 h "Unwrap").run Tryz.prog w = .ok (207, h) w := by kernel_rfl
theorem unwrap_any (g : Nat) (v : Value) (w : World) (h : w.cell? ⟨g, 1, none⟩ = some v) : Calls Tryz.prog 207 #[.pointer (some ⟨g, 0, none⟩)] w fun e w' => e = .returned v ∧ w = w' := by
 go_enter Tryz.func207, Tryz.ntmps207
 go_wp2
 go_ret
 exact ⟨rfl, rfl⟩
set_option maxHeartbeats 4000000 in
theorem as_far (e : Int) (g : Nat) (t : Addr) (old : Value) (w : World) (hg : w.cell? ⟨1, 0, none⟩ = some (.iface 110 (.agg #[.pointer (some ⟨22, 31, none⟩)]))) (ht0 : w.cell? t = some old) (hf0 : w.frozen? t = false) (hF1 : w.cell? ⟨g, 1, none⟩ = some (.iface 55 (.int .i64 e))) :
  Calls Tryz.prog 35 #[.iface 61 (.pointer (some ⟨g, 0, none⟩)), .iface 67 (.pointer (some t))] w fun ev w' => ev = .returned (.bool true) ∧ w' = ((((w.alloc (.cells #[.pointer (some t)] 67)).alloc (.cells #[.pointer (some ⟨22, 67, none⟩), .pointer (some ⟨w.heap.size, 0, none⟩), .int .u64 150] 85)).alloc (.cells #[.pointer (some ⟨22, 67, none⟩), .pointer (some ⟨w.heap.size, 0, none⟩), .int .u64 150] 85)).alloc (.cells #[.int .i64 e] 55)).setCell t (.int .i64 e) := by
 have h6 := @run_callFunc_extern Tryz.prog 57 _ (fun args => ReflectliteValue.unpack (args.getD 0 (.tuple #[]))) Tryz.func57 (by kernel_rfl) (by kernel_rfl) (by kernel_rfl) (by kernel_rfl)
 have h7 := @run_callFunc_extern Tryz.prog 58 _ (ReflectliteValue.methodAny (ReflectliteValue.valueError "reflectlite.Value.Type" 0) (fun t _ _ _ => ReflectliteType.toType t)) Tryz.func58 (by kernel_rfl) (by kernel_rfl) (by kernel_rfl) (by kernel_rfl)
 have h8 := @run_callFunc_extern Tryz.prog 59 _ (ReflectliteValue.method (ReflectliteValue.valueError "reflectlite.Value.IsNil" 0) ReflectliteValue.isNil) Tryz.func59 (by kernel_rfl) (by kernel_rfl) (by kernel_rfl) (by kernel_rfl)
 have h27 := @run_callFunc_extern Tryz.prog 202 _ (ReflectliteType.abiMethod fun t => do pure (.int .u8 (← Rtype.kind t))) Tryz.func202 (by kernel_rfl) (by kernel_rfl) (by kernel_rfl) (by kernel_rfl)
 have h37 := @run_callFunc_extern Tryz.prog 214 _ (ReflectliteType.method ReflectliteType.elem) Tryz.func214 (by kernel_rfl) (by kernel_rfl) (by kernel_rfl) (by kernel_rfl)
 have h38 := @run_callFunc_extern Tryz.prog 215 _ (ReflectliteType.relation "Implements" ReflectliteType.implements_) Tryz.func215 (by kernel_rfl) (by kernel_rfl) (by kernel_rfl) (by kernel_rfl)
 have h10 := @run_callFunc_extern Tryz.prog 82 _ ReflectliteType.typeOf Tryz.func82 (by kernel_rfl) (by kernel_rfl) (by kernel_rfl) (by kernel_rfl)
 have h35 := @run_callFunc_extern Tryz.prog 212 _ (ReflectliteType.relation "AssignableTo" ReflectliteType.assignableTo) Tryz.func212 (by kernel_rfl) (by kernel_rfl) (by kernel_rfl) (by kernel_rfl)
 have h11 := @run_callFunc_extern Tryz.prog 83 _ (ReflectliteValue.method (ReflectliteValue.valueError "reflectlite.Value.Elem" 0) ReflectliteValue.elem) Tryz.func83 (by kernel_rfl) (by kernel_rfl) (by kernel_rfl) (by kernel_rfl)
 have h12 := @run_callFunc_extern Tryz.prog 84 _ ReflectliteValue.set Tryz.func84 (by kernel_rfl) (by kernel_rfl) (by kernel_rfl) (by kernel_rfl)
 have tO := Asx.typeOf25
 have mA := Asx.methodAssignableTo
 have a25 := Asx.assignable25
 have v25 := Asx.valueOf25
 have f6 := Asx.valueOf27
 have f7 := Asx.type27
 have mK := Asx.methodKind
 have mE := Asx.methodElem
 have mI := Asx.methodImplements
 have k27 := Asx.kind27
 have k25 := Asx.kind25
 have e27 := Asx.elem27
 have i25 := Asx.implements25
 have n8 := Asx.isNil27 ⟨w.heap.size, 0, none⟩ t ((w.alloc (.cells #[.pointer (some t)] 67)).alloc (.cells #[.pointer (some ⟨22, 67, none⟩), .pointer (some ⟨w.heap.size, 0, none⟩), .int .u64 150] 85)) (by simp)
 have hlt : 1 < w.heap.size := World.block_lt_of_cell? w _ hg
 have hg2 : ((w.alloc (.cells #[.pointer (some t)] 67)).alloc (.cells #[.pointer (some ⟨22, 67, none⟩), .pointer (some ⟨w.heap.size, 0, none⟩), .int .u64 150] 85)).cell? ⟨1, 0, none⟩ = some (.iface 110 (.agg #[.pointer (some ⟨22, 31, none⟩)])) := by
  rw [World.cell?_alloc_lt _ _ ⟨1, 0, none⟩ (by first | (simp; done) | (simp; omega)), World.cell?_alloc_lt _ _ ⟨1, 0, none⟩ hlt]; exact hg
 have htl : t.block < w.heap.size := by
  rcases Nat.lt_or_ge t.block w.heap.size with h | h
  ·exact h
  ·simp [World.cell?, Array.getElem?_eq_none h] at ht0
 have el := Asx.elemV27 ⟨w.heap.size, 0, none⟩ t (((w.alloc (.cells #[.pointer (some t)] 67)).alloc (.cells #[.pointer (some ⟨22, 67, none⟩), .pointer (some ⟨w.heap.size, 0, none⟩), .int .u64 150] 85)).alloc (.cells #[.pointer (some ⟨22, 67, none⟩), .pointer (some ⟨w.heap.size, 0, none⟩), .int .u64 150] 85)) (by rw [World.cell?_alloc_lt _ _ ⟨w.heap.size, 0, none⟩ (by first | (simp; done) | (simp; omega))]; simp)
 have st := Asx.set25 t ⟨w.heap.size + 1 + 1 + 1, 0, none⟩ e old ((((w.alloc (.cells #[.pointer (some t)] 67)).alloc (.cells #[.pointer (some ⟨22, 67, none⟩), .pointer (some ⟨w.heap.size, 0, none⟩), .int .u64 150] 85)).alloc (.cells #[.pointer (some ⟨22, 67, none⟩), .pointer (some ⟨w.heap.size, 0, none⟩), .int .u64 150] 85)).alloc (.cells #[.int .i64 e] 55))
  (by rw [World.cell?_alloc_at _ _ _ _ (by simp)]; rfl)
  (by rw [World.cell?_alloc_lt _ _ t (by first | (simp; done) | (simp; omega)), World.cell?_alloc_lt _ _ t (by first | (simp; done) | (simp; omega)), World.cell?_alloc_lt _ _ t (by first | (simp; done) | (simp; omega)), World.cell?_alloc_lt _ _ t htl]; exact ht0)
  (by rw [World.frozen?_alloc_old _ _ t (by first | (simp; done) | (simp; omega)), World.frozen?_alloc_old _ _ t (by first | (simp; done) | (simp; omega)), World.frozen?_alloc_old _ _ t (by first | (simp; done) | (simp; omega)), World.frozen?_alloc_old _ _ t (Nat.ne_of_lt htl)]; exact hf0)
 have tF := Asf.typeOf25
 have aF := Asu.assignableF
 have na := Asu.noAs
 have nu := Asu.hasUnwrap
 have mU := Asu.methodUnwrap
 have hgl : g < w.heap.size := World.block_lt_of_cell? w ⟨g, 1, none⟩ hF1
 have HF2 : Aside0 ((((w.alloc (.cells #[.pointer (some t)] 67)).alloc (.cells #[.pointer (some ⟨22, 67, none⟩), .pointer (some ⟨w.heap.size, 0, none⟩), .int .u64 150] 85)).alloc (.cells #[.pointer (some ⟨22, 67, none⟩), .pointer (some ⟨w.heap.size, 0, none⟩), .int .u64 150] 85)).cell? ⟨g, 1, none⟩ = some (.iface 55 (.int .i64 e))) := ⟨by
  rw [World.cell?_alloc_lt _ _ ⟨g, 1, none⟩ (by simp; omega), World.cell?_alloc_lt _ _ ⟨g, 1, none⟩ (by simp; omega), World.cell?_alloc_lt _ _ ⟨g, 1, none⟩ hgl]; exact hF1⟩
 clear hF1
 go_enter Tryz.func35, Tryz.ntmps35
 go_wp2
 refine wp_loop_rounds 2 ?_
 rw [rounds_succ]
 go_wp2_with (go_at_call 207; refine (unwrap_any g _ _ HF2.out).mono ?_; rintro e_ w' ⟨rfl, rfl⟩)
 rw [rounds_succ]
 go_wp2
 go_ret
 exact ⟨rfl, rfl⟩
end Go.Proofs.YtjleceekccehoaaGreatDoor.Pr
end

section
set_option linter.unusedVariables false
set_option linter.unusedSimpArgs false
namespace Go.Proofs.YtjleceekccehoaaGreatDoor.Pr
open Go.RowKit Go.Proofs.YtjleceekccehoaaGreatDoorW.PrintWords Go.Proofs.YtjleceekccehoaaGreatDoorW.PrintLast Go.Proofs.YtjleceekccehoaaGreatDoorW.PrintMore

set_option maxRecDepth 100000 in
theorem code_far (e : Int) (hn : 0 < e) (g : Nat) (w : World) (hL : LaidE w) (hF : w.cell? ⟨g, 1, none⟩ = some (.iface 55 (.int .i64 e))) : Calls Tryz.prog 20 #[.iface 61 (.pointer (some ⟨g, 0, none⟩))] w fun ev w' => ev = .returned (.int .i64 e) ∧ Below w.heap.size w w' := by
 have hF2 := pw_cell_below (below_alloc (Below.refl _ w) (.cells #[.int .i64 0] 55)) hF
 have HF := Aside0.mk hF2
 clear hF hF2
 go_enter Tryz.func20, Tryz.ntmps20
 go_wp2_with (go_at_call 35; refine (as_far e g _ (.int .i64 0) _ (hL.alloc _) (by simp) (by simp) HF.out).mono ?_; rintro e_ w' ⟨rfl, rfl⟩)
 go_ret
 exact ⟨rfl, below_alloc (below_alloc (below_alloc (below_alloc (below_alloc (Below.refl _ _) _) _) _) _) _⟩
set_option maxHeartbeats 4000000 in
set_option maxRecDepth 100000 in
theorem fault_hit (e : Int) (hn : 0 < e) (p : Int) (g : Nat) (w : World) (hL : LaidE w) (hF0 : w.cell? ⟨g, 0, none⟩ = some (.int .i64 p)) (hF1 : w.cell? ⟨g, 1, none⟩ = some (.iface 55 (.int .i64 e))) :
  Calls Tryz.prog 36 #[.iface 61 (.pointer (some ⟨g, 0, none⟩)), .int .i64 p, .int .i64 e] w fun ev w' => ev = .returned (.bool true) ∧ Below w.heap.size w w' := by
 have e0 : (e == 0) = false := by rw [beq_eq_false_iff_ne]; omega
 have HA := Aside0.mk hF0
 have HC := Aside0.mk hF1
 have HL := Aside0.mk hL
 have HN := Aside0.mk hn
 clear hF0 hF1 hL hn
 go_enter Tryz.func36, Tryz.ntmps36
 go_wp2_with fail
 refine (as_hitF ⟨g, 0, none⟩ _ (.pointer none) _ (HL.out.alloc _) (by simp) (by simp)).mono ?_
 rintro e_ w1 ⟨rfl, hw1⟩
 have HB : Aside0 (Below w.heap.size w w1) := ⟨by rw [hw1]; exact (below_alloc (below_alloc (below_alloc (below_alloc (below_alloc (Below.refl _ _) _) _) _) _) _).setCell (Nat.le_refl _) _⟩
 have c7 : w1.cell? ⟨w.heap.size, 0, none⟩ = some (.pointer (some ⟨g, 0, none⟩)) := by rw [hw1]; first | go_simp | simp
 have k0 := pw_cell_below HB.out HA.out
 have HK1 := Aside0.mk (pw_cell_below HB.out HC.out)
 clear hw1
 go_wp2_with fail
 refine (code_far e HN.out g _ (HL.out.below HB.out) HK1.out).mono ?_
 rintro e_ w2 ⟨rfl, hb2⟩
 have HB2 := Aside0.mk (below_step HB.out hb2)
 clear hb2
 go_wp2_with fail
 go_ret
 exact ⟨by first | rfl | simp, HB2.out⟩
set_option maxRecDepth 100000 in
theorem fault_nil (p : Int) (w : World) : Calls Tryz.prog 36 #[.nilIface, .int .i64 p, .int .i64 0] w fun ev w' => ev = .returned (.bool true) ∧ w = w' := by
 go_enter Tryz.func36, Tryz.ntmps36
 go_wp2_with fail
 go_ret
 exact ⟨by first | rfl | simp, rfl⟩
set_option maxRecDepth 100000 in
theorem Fault_hit (e : Int) (hn : 0 < e) (p : Int) (g : Nat) (w : World) (hL : LaidE w) (hF0 : w.cell? ⟨g, 0, none⟩ = some (.int .i64 p)) (hF1 : w.cell? ⟨g, 1, none⟩ = some (.iface 55 (.int .i64 e))) :
  Calls Tryz.prog 21 #[.iface 61 (.pointer (some ⟨g, 0, none⟩)), .int .i64 p, .int .i64 e] w fun ev w' => ev = .returned (.bool true) ∧ Below w.heap.size w w' := by
 have HC := Aside0.mk (fault_hit e hn p g w hL hF0 hF1)
 clear hL hF0 hF1
 go_enter Tryz.func21, Tryz.ntmps21
 go_wp2_with (go_at_call 36; refine HC.out.mono ?_; rintro e_ w1 ⟨rfl, hb1⟩)
 go_ret
 exact ⟨rfl, hb1⟩
set_option maxRecDepth 100000 in
theorem Fault_nil (p : Int) (w : World) : Calls Tryz.prog 21 #[.nilIface, .int .i64 p, .int .i64 0] w fun ev w' => ev = .returned (.bool true) ∧ w = w' := by
 go_enter Tryz.func21, Tryz.ntmps21
 go_wp2_with (go_at_call 36; refine (fault_nil p _).mono ?_; rintro e_ w1 ⟨rfl, rfl⟩)
 go_ret
 exact ⟨rfl, rfl⟩
end Go.Proofs.YtjleceekccehoaaGreatDoor.Pr
end

section
-- Written by a program of this session (wip/hook.py) out of the translation. Not trusted: Lean checks it.
namespace Go.Proofs.YtjleceekccehoaaGreatDoor.Pr
open Go.RowKit Go.Proofs.YtjleceekccehoaaGreatDoorW.PrintWords Go.Proofs.YtjleceekccehoaaGreatDoorW.PrintLast Go.Proofs.YtjleceekccehoaaGreatDoorW.PrintMore
attribute [local go_sem] max2_int min2_int max_two min_two max_three min_three max_four min_four   -- for this text's walks alone
set_option linter.unusedVariables false
set_option linter.unusedSimpArgs false

theorem eqA41 (d : Nat) (w : World) (x0 y0 : Int) (x1 y1 : Int) (x2 y2 : ByteArray) :
  (Op.equalIn (d + 2) 41 (.agg #[.int .i64 x0, .int .i64 x1, .string x2]) (.agg #[.int .i64 y0, .int .i64 y1, .string y2])).run Tryz.prog w = .ok (x0 == y0 && (x1 == y1 && (x2.toList == y2.toList))) w := by
 refine eqA_of Tryz.underlying41 (by kernel_rfl) ?_
 refine eqf_cons (by rfl) (by go_simp; rfl) (by go_simp; rfl) (by go_simp) ?_
 refine eqf_cons (by rfl) (by go_simp; rfl) (by go_simp; rfl) (by go_simp) ?_
 exact eqf_last (by rfl) (by go_simp; rfl) (by go_simp; rfl) (by go_simp)
end Go.Proofs.YtjleceekccehoaaGreatDoor.Pr
end

section
set_option linter.unusedVariables false
set_option linter.unusedSimpArgs false
namespace Go.Proofs.YtjleceekccehoaaGreatDoor.Pr
open Go.RowKit Go.Proofs.YtjleceekccehoaaGreatDoorW.PrintWords Go.Proofs.YtjleceekccehoaaGreatDoorW.PrintLast Go.Proofs.YtjleceekccehoaaGreatDoorW.PrintMore

/-- All that layer 8's laws ask of the package-level variables. -/
structure LaidW (w : World) : Prop where
 t : LaidT8 w
 e : LaidE w
theorem LaidW.below {w w' : World} (h : LaidW w) (hb : Below w.heap.size w w') : LaidW w' := ⟨h.t.below hb, h.e.below hb⟩
def aw1 : List UInt8 := [114, 97, 116, 101, 40, 120, 91, 53, 109, 93, 41]
def aw2 : List UInt8 := [97, 32, 33, 32, 98]
def toks1 : List Tok := [⟨1, 0, bs [114, 97, 116, 101]⟩, ⟨5, 4, bs [40]⟩, ⟨1, 5, bs [120]⟩, ⟨5, 6, bs [91]⟩, ⟨3, 7, bs [53, 109]⟩, ⟨5, 9, bs [93]⟩, ⟨5, 10, bs [41]⟩]
theorem aw1_lex : lexS 0 aw1 = .ok toks1 := by kernel_rfl
theorem aw2_lex : lexS 0 aw2 = .error 2 := by kernel_rfl
set_option maxHeartbeats 4000000 in
set_option maxRecDepth 100000 in
theorem awake8_any (w : World) (hX : LaidW w) : Calls Tryz.prog 17 #[] w fun e w' => e = .returned (.bool true) ∧ Below w.heap.size w w' := by
 have HX := Aside0.mk hX
 have H1 : Aside0 (∀ W, LaidT8 W → Calls Tryz.prog 18 #[.string ⟨#[114, 97, 116, 101, 40, 120, 91, 53, 109, 93, 41]⟩] W fun e w' => (∃ v, e = .returned (.tuple #[v, .nilIface]) ∧ Kd.R k41 41 w' W.heap.size (fun _ => True) v toks1) ∧ Below W.heap.size W w') := ⟨fun W h => by have h1 := lex_any aw1 (by decide) W h; rw [aw1_lex] at h1; exact h1⟩
 have H2 : Aside0 (∀ W, LaidT8 W → Calls Tryz.prog 18 #[.string ⟨#[97, 32, 33, 32, 98]⟩] W fun e w' => (∃ g, e = .returned (.tuple #[.slice none 0 0, .iface 61 (.pointer (some ⟨g, 0, none⟩))]) ∧ W.heap.size ≤ g ∧ w'.heap[g]? = some (.cells #[.int .i64 (2 : Nat), .iface 55 (.int .i64 5)] 63 (0, 0))) ∧ Below W.heap.size W w') := ⟨fun W h => by have h1 := lex_any aw2 (by decide) W h; rw [aw2_lex] at h1; exact h1⟩
 clear hX
 go_enter Tryz.func17, Tryz.ntmps17
 go_wp2_with fail
 refine (H1.out _ HX.out.t).mono ?_
 rintro e_ w1 ⟨⟨v, rfl, hr⟩, hb1⟩
 obtain ⟨A, c, rfl, hc, hC⟩ := Kd.R_reads hr
 have HC := Aside0.mk hC
 have HB1 := Aside0.mk hb1
 clear hr hC hb1
 go_wp2_with fail
 refine (H2.out _ (HX.out.t.below HB1.out)).mono ?_
 rintro e_ w2 ⟨⟨g, rfl, hg, hh⟩, hb2⟩
 have HB2 := Aside0.mk (below_step HB1.out hb2)
 have HC2 := Aside0.mk (Kd.C_below HC.out hb2)
 have HG0 : Aside0 (w2.cell? ⟨g, 0, none⟩ = some (.int .i64 2)) := ⟨(blk_cell hh 0).trans rfl⟩
 have HG1 : Aside0 (w2.cell? ⟨g, 1, none⟩ = some (.iface 55 (.int .i64 5))) := ⟨(blk_cell hh 1).trans rfl⟩
 obtain ⟨ad, hA, k0, k1, k2⟩ := at_T41 HC2.out 4 (by decide) (by decide)
 rw [show rd_T41 toks1 4 = ⟨3, 7, bs [53, 109]⟩ from by kernel_rfl] at k0 k1 k2
 have hlen : toks1.length = 7 := by kernel_rfl
 simp only at k0 k1 k2
 change w2.cell? ⟨ad.block, ad.off + 12, _⟩ = _ at k0
 change w2.cell? ⟨ad.block, ad.off + 12 + 1, _⟩ = _ at k1
 change w2.cell? ⟨ad.block, ad.off + 12 + 2, _⟩ = _ at k2
 subst hA
 rw [hlen] at hc ⊢
 have hc2 : (7 : Int) ≤ (c : Int) := by omega
 have e41 := eqA41
 have ht : ((bs [53, 109]).toList == [53, 109]) = true := by rw [Lib.toList_data]; rfl
 clear hb2 hg hh HC
 go_wp2_with (go_at_call 21; refine (Fault_hit 5 (by decide) 2 g _ (HX.out.e.below HB2.out) HG0.out HG1.out).mono ?_; rintro e_ w3 ⟨rfl, hb3⟩)
 go_ret
 exact ⟨by first | rfl | simp, below_step HB2.out hb3⟩
end Go.Proofs.YtjleceekccehoaaGreatDoor.Pr
end

section
set_option linter.unusedVariables false
set_option linter.unusedSimpArgs false
namespace Go.Proofs.YtjleceekccehoaaGreatDoor.Pr
open Go.ChangeShapes Go.WideShapes Go.ChangeAt Go.RowKit

theorem laidW_of {W : World} (h : laidMetH Tryz.prog laid8 W) : LaidW W :=
 have hl := laidL_of h
 ⟨⟨⟨laidN_of hl, errs_of hl, laidU_of h⟩, laidV8_of hl, laidB_of h⟩, laidE_of hl⟩
theorem handleFilter8 : (laid8.filter fun x => x.2.handleName?.isSome) = [("errors.errorType", Rows.laid_errors_errorType)] := by kernel_rfl
def plain8 : List (String × DataW Unit) := laid8.filter fun x => x.2.handleName?.isNone
noncomputable def laidWorld8 (os : Os) : World := (errWorld os).layVars Tryz.prog plain8
theorem laidWorld8_os (os : Os) : (laidWorld8 os).os = os := by
 unfold laidWorld8
 rw [World.layVars_os]; rfl
set_option maxRecDepth 100000 in
theorem laidWorld8_plain (os : Os) (args : Array Value) : laidMet Tryz.prog plain8 ((laidWorld8 os).forCall (fun _ _ => 0) ⟨#[], args, []⟩).memory := by
 have e1 : (plain8.filter fun x => (plain8.map (·.1)).contains x.1) = plain8 := List.filter_eq_self.2 fun x hx => List.contains_iff_mem.2 (List.mem_map.2 ⟨x, hx, rfl⟩)
 have e2 : (plain8.filter fun x => !(plain8.map (·.1)).contains x.1) = [] := List.filter_eq_nil_iff.2 fun x hx => by rw [List.contains_iff_mem.2 (List.mem_map.2 ⟨x, hx, rfl⟩)]; simp
 have h : laidMet Tryz.prog plain8 (laidWorld8 os) := laidMet_layVars (w0 := errWorld os) (plain8.map (·.1)) [] (by rw [e1]; rfl) (by rw [e1]; kernel_rfl) (by rw [e1]; kernel_rfl) (by rw [e2]; exact LaidIn.none)
 exact h.of_heap (by simp [World.memory, World.forCall, Input.heap])
set_option maxRecDepth 100000 in
theorem laidWorld8_met (os : Os) (args : Array Value) : laidMetH Tryz.prog laid8 ((laidWorld8 os).forCall (fun _ _ => 0) ⟨#[], args, []⟩).memory :=
 laidMetH_of_parts (laidWorld8_plain os args) (by rw [handleFilter8]; kernel_rfl)
end Go.Proofs.YtjleceekccehoaaGreatDoor.Pr
end
