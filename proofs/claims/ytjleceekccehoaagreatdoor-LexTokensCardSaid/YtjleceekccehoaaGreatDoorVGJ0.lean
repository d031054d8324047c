/- Texts of this session, cut down to what one claim needs and joined: Pr0, FfBase, FfSt, FfEfg, FfEfgF. -/
import Derived.Test.YtjleceekccehoaaGreatDoorProg
import Derived.Below
import Derived.Deep.Draws
import Derived.Deep.AppendLies
import Derived.Maps.AppendAt
import Derived.OwnWalk
import Derived.Laws.BytesArg
import Derived.Laws.MakeOwn
import Derived.Laws.OwnMore
import Derived.Deep.OwnRows
import Derived.Tactics
import Derived.Lib.ConvBytes
import Derived.Laws.Slices
import Derived.WalkKit
import Derived.KernelRfl
import Derived.RowKit3
import Derived.Deep.LoopGhost
import Derived.Deep.QuietTactic
import Derived.BigQuiet
import Derived.WideLaws
import Derived.Deep.DeepCutAuto
import Derived.Deep.CutBlock
import Derived.Deep.RegionHeld3
import Derived.Laws.Rows
import Derived.Lib.AppendStr
import Derived.ArgAppend
import Derived.Laws.IdiomCopy
import Derived.OrdersHeld
import Derived.Laws.BitsLemmas
import Derived.RowKit
import Derived.Test.YtjleceekccehoaaGreatDoorVGW
import Derived.WalkSpells
import Derived.WalkLawsBesides
import Derived.ChangeAlike
import Derived.RegionTactic
import Derived.IntWalk
import Derived.Outline
section
-- Written by a program of this session (wip/hook.py) out of the translation. Not trusted: Lean checks it.
namespace Go.Proofs.YtjleceekccehoaaGreatDoor.Pr
open Go.RowKit Go.Proofs.YtjleceekccehoaaGreatDoorW.PrintWords Go.Proofs.YtjleceekccehoaaGreatDoorW.PrintLast Go.Proofs.YtjleceekccehoaaGreatDoorW.PrintMore
attribute [local go_sem] max2_int min2_int max_two min_two max_three min_three max_four min_four   -- for this text's walks alone
set_option linter.unusedVariables false
set_option linter.unusedSimpArgs false



def errW : Option Int → Value
 | none => .nilIface
 | some c => .iface 55 (.int .i64 c)
theorem errW_none : errW none = .nilIface := rfl
theorem errW_some (c : Int) : errW (some c) = .iface 55 (.int .i64 c) := rfl

theorem info5 : (Tryz.prog.info? 5).map (fun i => (i.zero, i.size, i.bytes)) = some (some (.int .u8 0), 1, 1) := by kernel_rfl
/-! #### struct type 41 -/
structure S41 where
 f0 : Int
 f1 : Int
 f2 : ByteArray
def z41 : S41 := ⟨(0 : Int), (0 : Int), (⟨#[]⟩ : ByteArray)⟩
def k41 : Kd S41 := Kd.iso (Kd.pair (Kd.int .i64) (Kd.pair (Kd.int .i64) Kd.string)) (fun x : S41 => (x.f0, x.f1, x.f2))
theorem k41_open {w : World} {x : S41} {cs : List Value} (h : k41.K w x cs) : cs = [.int .i64 x.f0, .int .i64 x.f1, .string x.f2] := by
 obtain ⟨_, _, rfl, rfl, ⟨_, _, rfl, rfl, rfl⟩⟩ := h
 exact rfl
theorem k41_mk (w : World) (x : S41)  : k41.K w x [.int .i64 x.f0, .int .i64 x.f1, .string x.f2] := ⟨[.int .i64 x.f0], [.int .i64 x.f1, .string x.f2], rfl, rfl, ⟨[.int .i64 x.f1], [.string x.f2], rfl, rfl, rfl⟩⟩
theorem k41_mkM (w : World) (base : Nat) (ok : Nat → Prop) (x : S41)  : k41.M w base ok x [.int .i64 x.f0, .int .i64 x.f1, .string x.f2] := ⟨[.int .i64 x.f0], [.int .i64 x.f1, .string x.f2], rfl, rfl, ⟨[.int .i64 x.f1], [.string x.f2], rfl, rfl, rfl⟩⟩
def rd_T41 (xs : List S41) (i : Int) : S41 := xs.getD i.toNat z41
theorem at_T41 {w : World} {A : Option Addr} {n : Nat} {xs : List S41} (h : Kd.C k41 w A n xs) (i : Int) (h0 : 0 ≤ i) (h1 : i < n) : ∃ ad , A = some ad ∧ w.cell? (ad.add (i.toNat * 3)) = some (.int .i64 (rd_T41 xs i).f0) ∧ w.cell? ⟨(ad.add (i.toNat * 3)).block, (ad.add (i.toNat * 3)).off + 1, none⟩ = some (.int .i64 (rd_T41 xs i).f1) ∧ w.cell? ⟨(ad.add (i.toNat * 3)).block, (ad.add (i.toNat * 3)).off + 2, none⟩ = some (.string (rd_T41 xs i).f2) := by
 obtain ⟨ad, c, e, _, hK, hc0⟩ := Kd.C_get h z41 i h0 h1
 have hc : ∀ j u, c[j]? = some u → w.cell? (ad.add (i.toNat * 3 + j)) = some u := hc0
 obtain rfl := k41_open hK
 exact ⟨ad, e, hc 0 _ rfl, by rw [← add_field _ _ 1 (by omega)]; exact hc 1 _ rfl, by rw [← add_field _ _ 2 (by omega)]; exact hc 2 _ rfl⟩

end Go.Proofs.YtjleceekccehoaaGreatDoor.Pr
end

section
set_option linter.unusedVariables false
set_option linter.unusedSimpArgs false
namespace Go.Proofs.YtjleceekccehoaaGreatDoor.Pr
open Go.RowKit Go.Proofs.YtjleceekccehoaaGreatDoorW.PrintWords Go.Proofs.YtjleceekccehoaaGreatDoorW.PrintLast Go.Proofs.YtjleceekccehoaaGreatDoorW.PrintMore

/-- Block g holds just these cells, none frozen. -/
def Blk (w : World) (g : Nat) (t : TypeId) (cs : Array Value) : Prop := w.heap[g]? = some (.cells cs t (0, 0))
section
variable {w w' : World} {g : Nat} {t : TypeId} {cs : Array Value}
theorem Blk.lt (h : Blk w g t cs) : g < w.heap.size := by
 rcases Nat.lt_or_ge g w.heap.size with hlt | hge
 ·exact hlt
 ·unfold Blk at h; rw [Array.getElem?_eq_none hge] at h; cases h
theorem Blk.cell (h : Blk w g t cs) (i : Nat) : w.cell? ⟨g, i, none⟩ = cs[i]? := cell_of_row w g i cs t (0, 0) h
theorem Blk.frozen (h : Blk w g t cs) (i : Nat) : w.frozen? ⟨g, i, none⟩ = false := by
 unfold Blk at h
 simp [World.frozen?, h]
theorem Blk.drewN (h : Blk w g t cs) (n : Nat) : Blk (w.drewN n) g t cs := h
theorem Blk.set_ (h : Blk w g t cs) (i : Nat) (u : Value) : Blk (w.setCell ⟨g, i, none⟩ u) g t (cs.setIfInBounds i u) := by
 unfold Blk at h ⊢
 simp [World.setCell, Array.getElem?_modify, h]
end



/-- Block g alone is written to. -/
def KB (w w' : World) (g : Nat) : Prop := KeepBut w w' g none ∧ Below g w w'
theorem KB.refl (w : World) (g : Nat) : KB w w g := ⟨KeepBut.refl _ _ _, Below.refl _ _⟩
theorem KB.set_ {w w1 : World} {g : Nat} (h : KB w w1 g) (j : Nat) (u : Value) : KB w (w1.setCell ⟨g, j, none⟩ u) g := ⟨h.1.set_ _ _, h.2.setCell (p := ⟨g, j, none⟩) (Nat.le_refl _) u⟩
theorem KB.drewN {w w1 : World} {g : Nat} (h : KB w w1 g) (n : Nat) : KB w (w1.drewN n) g := ⟨keep_drewN h.1 n, pw_below_drewN h.2 n⟩
def smalls : ByteArray := ⟨#[48, 48, 48, 49, 48, 50, 48, 51, 48, 52, 48, 53, 48, 54, 48, 55, 48, 56, 48, 57, 49, 48, 49, 49, 49, 50, 49, 51, 49, 52, 49, 53, 49, 54, 49, 55, 49, 56, 49, 57, 50, 48, 50, 49, 50, 50, 50, 51, 50, 52, 50, 53, 50, 54, 50, 55, 50, 56, 50, 57, 51, 48, 51, 49, 51, 50, 51, 51, 51, 52, 51, 53, 51, 54, 51, 55, 51, 56, 51, 57, 52, 48, 52, 49, 52, 50, 52, 51, 52, 52, 52, 53, 52, 54, 52, 55, 52, 56, 52, 57, 53, 48, 53, 49, 53, 50, 53, 51, 53, 52, 53, 53, 53, 54, 53, 55, 53, 56, 53, 57, 54, 48, 54, 49, 54, 50, 54, 51, 54, 52, 54, 53, 54, 54, 54, 55, 54, 56, 54, 57, 55, 48, 55, 49, 55, 50, 55, 51, 55, 52, 55, 53, 55, 54, 55, 55, 55, 56, 55, 57, 56, 48, 56, 49, 56, 50, 56, 51, 56, 52, 56, 53, 56, 54, 56, 55, 56, 56, 56, 57, 57, 48, 57, 49, 57, 50, 57, 51, 57, 52, 57, 53, 57, 54, 57, 55, 57, 56, 57, 57]⟩
/-- The byte of 'smalls' at a place. -/
def sm (i : Int) : Int := if h : i.toNat < smalls.size then ((smalls[i.toNat]'h).toNat : Int) else 0
def st2 (m : Nat) (x : Int) (ds : List Int) : List Int := (ds.set (m - 1) (sm (x + 1))).set (m - 2) (sm x)
def t1 (m : Nat) (x : Int) (ds : List Int) : List Int := if 0 < m then ds.set 0 ((48 + x) % 256) else ds
def t2 (m : Nat) (x : Int) (ds : List Int) : List Int := if 2 ≤ m then t1 (m - 2) (x / 100) (st2 m (x % 100 * 2) ds) else t1 m x ds
def t4 (m : Nat) (x : Int) (ds : List Int) : List Int := if 4 ≤ m then t2 (m - 4) (x / 10000) (st2 (m - 2) (x % 10000 / 100 * 2) (st2 m (x % 100 * 2) ds)) else t2 m x ds
def u8s (ds : List Int) : Array Value := (ds.map (Value.int .u8)).toArray
theorem u8s_set (ds : List Int) (i : Nat) (x : Int) : (u8s ds).setIfInBounds i (.int .u8 x) = u8s (ds.set i x) := by simp [u8s, List.map_set]
theorem Blk.st {w : World} {g t : Nat} {ds : List Int} (h : Blk w g t (u8s ds)) (i : Nat) (x : Int) : Blk (w.setCell ⟨g, i, none⟩ (.int .u8 x)) g t (u8s (ds.set i x)) := by
 rw [← u8s_set]; exact h.set_ i _
theorem Blk.at_ {w : World} {g t : Nat} {ds : List Int} (h : Blk w g t (u8s ds)) (i : Nat) (hi : i < ds.length) : ∃ d, w.cell? ⟨g, i, none⟩ = some (.int .u8 d) :=
 ⟨ds[i]'hi, by rw [h.cell]; simp [u8s, List.getElem?_eq_getElem hi]⟩
theorem Blk.st2 {w : World} {g t m : Nat} {x : Int} {ds : List Int} (h : Blk w g t (u8s ds)) : Blk ((w.setCell ⟨g, m - 1, none⟩ (.int .u8 (sm (x + 1)))).setCell ⟨g, m - 2, none⟩ (.int .u8 (sm x))) g t (u8s (Pr.st2 m x ds)) := (h.st _ _).st _ _
theorem KB.st2 {w0 w : World} {g i j : Nat} {u v : Value} (h : KB w0 w g) : KB w0 (((w.setCell ⟨g, i, none⟩ u).setCell ⟨g, j, none⟩ v).drew) g := ((h.set_ _ _).set_ _ _).drewN 1

-- WALKS
end Go.Proofs.YtjleceekccehoaaGreatDoor.Pr
end

section
set_option linter.unusedVariables false
set_option linter.unusedSimpArgs false
namespace Go.Proofs.YtjleceekccehoaaGreatDoor.Pr
open Go.RowKit Go.Proofs.YtjleceekccehoaaGreatDoorW.PrintWords Go.Proofs.YtjleceekccehoaaGreatDoorW.PrintLast Go.Proofs.YtjleceekccehoaaGreatDoorW.PrintMore

/-- v is a row of the bytes l of the call's own (made since w0), apart from the block gs, which holds ds. -/
structure St (w0 : World) (gs : Option Nat) (ds : List Int) (W : World) (v : Value) (l : List Int) : Prop where
 row : Kd.R (Kd.int .u8) 5 W w0.heap.size (fun k => some k ≠ gs) v l
 src : ∀ g, gs = some g → Blk W g 141 (u8s ds)
 bel : Below w0.heap.size w0 W
section
variable {w0 W : World} {gs : Option Nat} {ds : List Int} {v : Value} {l : List Int}
theorem St.alloc (h : St w0 gs ds W v l) (o : Obj) : St w0 gs ds (W.alloc o) v l :=
 ⟨Kd.R_alloc h.row o, fun g hg => (Below.heap_alloc W o g (h.src g hg).lt).trans (h.src g hg), below_alloc h.bel o⟩
theorem St.drewN (h : St w0 gs ds W v l) (n : Nat) : St w0 gs ds (W.drewN n) v l := ⟨Kd.R_drewN h.row n, fun g hg => (h.src g hg).drewN n, pw_below_drewN h.bel n⟩
theorem St.new (w : World) (gs : Option Nat) (ds : List Int) (hs : ∀ g, gs = some g → Blk w g 141 (u8s ds)) (hb : Below w0.heap.size w0 w) : St w0 gs ds w (.slice none 0 0) [] :=
 ⟨Kd.R_nil _ _ _ _ _, hs, hb⟩
variable {P : Program} {ops : Array Oper} {o : Oper} {a : Act} {Q : Exit → Act → World → Prop} {rest : List Oper}
end
end Go.Proofs.YtjleceekccehoaaGreatDoor.Pr
end

section
set_option linter.unusedVariables false
set_option linter.unusedSimpArgs false
namespace Go.Proofs.YtjleceekccehoaaGreatDoor.Pr
open Go.RowKit Go.Proofs.YtjleceekccehoaaGreatDoorW.PrintWords Go.Proofs.YtjleceekccehoaaGreatDoorW.PrintLast Go.Proofs.YtjleceekccehoaaGreatDoorW.PrintMore
attribute [local go_sem] max2_int min2_int max_two min_two max_three min_three

def sgn (neg : Bool) : List Int := if neg = true then [45] else []
end Go.Proofs.YtjleceekccehoaaGreatDoor.Pr
end

section
set_option linter.unusedVariables false
set_option linter.unusedSimpArgs false
namespace Go.Proofs.YtjleceekccehoaaGreatDoor.Pr
open Go.RowKit Go.Proofs.YtjleceekccehoaaGreatDoorW.PrintWords Go.Proofs.YtjleceekccehoaaGreatDoorW.PrintLast Go.Proofs.YtjleceekccehoaaGreatDoorW.PrintMore
attribute [local go_sem] max2_int min2_int max_two min_two max_three min_three

end Go.Proofs.YtjleceekccehoaaGreatDoor.Pr
end
