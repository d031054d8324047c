/- Texts of this session, cut down to what one claim needs and joined: FfSt. -/
import Derived.Test.YtjleceekccehoaaGreatDoorBFfBase
set_option linter.unusedVariables false
set_option linter.unusedSimpArgs false
namespace Go.Proofs.YtjleceekccehoaaGreatDoor.Pr
open Go.RowKit Go.Proofs.YtjleceekccehoaaGreatDoorW.PrintWords Go.Proofs.YtjleceekccehoaaGreatDoorW.PrintLast Go.Proofs.YtjleceekccehoaaGreatDoorW.PrintMore

/-- v is a row of the bytes l of the call's own (made since w0), apart from the block gs, which holds ds. -/
structure St (w0 : World) (gs : Option Nat) (ds : List Int) (W : World) (v : Value) (l : List Int) : Prop where
  row : Kd.R (Kd.int .u8) 5 W w0.heap.size (fun k => some k ≠ gs) v l
  src : ∀ g, gs = some g → Blk W g 141 (u8s ds)
  bel : Below w0.heap.size w0 W
section
variable {w0 W : World} {gs : Option Nat} {ds : List Int} {v : Value} {l : List Int}
theorem St.alloc (h : St w0 gs ds W v l) (o : Obj) : St w0 gs ds (W.alloc o) v l :=
  ⟨Kd.R_alloc h.row o, fun g hg => (Below.heap_alloc W o g (h.src g hg).lt).trans (h.src g hg), below_alloc h.bel o⟩
theorem St.drewN (h : St w0 gs ds W v l) (n : Nat) : St w0 gs ds (W.drewN n) v l := ⟨Kd.R_drewN h.row n, fun g hg => (h.src g hg).drewN n, pw_below_drewN h.bel n⟩
theorem St.new (w : World) (gs : Option Nat) (ds : List Int) (hs : ∀ g, gs = some g → Blk w g 141 (u8s ds)) (hb : Below w0.heap.size w0 w) : St w0 gs ds w (.slice none 0 0) [] :=
  ⟨Kd.R_nil _ _ _ _ _, hs, hb⟩
theorem St.grow {w1 : World} {v1 : Value} {l1 : List Int} (h : St w0 gs ds W v l) (hr : Kd.R (Kd.int .u8) 5 w1 w0.heap.size (fun k => some k ≠ gs) v1 l1) (hb : Below w0.heap.size w0 w1) (hg : W.grownBy w1 v.ownBlock) : St w0 gs ds w1 v1 l1 :=
  ⟨hr, fun g hgs => by
    have hs := h.src g hgs
    refine (hg.block g hs.lt ?_).trans hs
    intro he
    exact h.row.1 g he.symm hgs.symm, hb⟩

variable {P : Program} {ops : Array Oper} {o : Oper} {a : Act} {Q : Exit → Act → World → Prop} {rest : List Oper}
theorem app1 (hgd : o.guard = none) (s x : Operand) (ho : o.op = .call { callee := .builtin .append, args := #[s, x], argTypes := #[97, 97] })
    (ht : P.underlying 97 = some (.slice 5)) (hinfo : (P.info? 5).map (fun i => (i.zero, i.size, i.bytes)) = some (some (.int .u8 0), 1, 1))
    (c : Int) (h : St w0 gs ds W v l) (hs : a.eval s = v) (hx : a.eval x = .slice (some ⟨W.heap.size, 0, none⟩) 1 1) (hl : l.length ≤ 1000)
    (K : ∀ v1 w1, St w0 gs ds w1 v1 (l ++ [c]) → wpList P ops Q rest (a.put o.dst v1) w1) : wpList P ops Q (o :: rest) a (W.alloc (.cells #[.int .u8 c] 5)) := by
  refine Kd.R_append (Kd.int .u8) (w0 := w0) w0.heap.size hgd s x 97 5 (.int .u8 0) 1 ho ht hinfo rfl (by decide) (by omega) v l c [.int .u8 c] (fun k => some k ≠ gs) (fun _ => False) hs hx rfl (fun _ hk => hk.elim) (fun k hk he => ?_) h.row h.bel h.bel.size (by omega) ?_
  · have := (h.src k he.symm).lt; omega
  · intro v1 w1 hr hb hg _
    exact K v1 w1 (h.grow hr hb hg)
theorem appN (hgd : o.guard = none) (s x : Operand) (ho : o.op = .call { callee := .builtin .append, args := #[s, x], argTypes := #[97, 97] })
    (ht : P.underlying 97 = some (.slice 5)) (hinfo : (P.info? 5).map (fun i => (i.zero, i.size, i.bytes)) = some (some (.int .u8 0), 1, 1))
    (ys : List Int) (A : Option Addr) (m c : Nat) (h : St w0 gs ds W v l) (hC : Kd.C (Kd.int .u8) W A m ys) (hs : a.eval s = v) (hx : a.eval x = .slice A m c) (hl : l.length ≤ 1000) (hm : m ≤ 1000)
    (K : ∀ v1 w1, St w0 gs ds w1 v1 (l ++ ys) → wpList P ops Q rest (a.put o.dst v1) w1) : wpList P ops Q (o :: rest) a W := by
  refine Kd.R_append_rows (Kd.int .u8) (w0 := w0) w0.heap.size hgd s x 97 5 (.int .u8 0) 1 ho ht hinfo rfl (by decide) (by omega) v l ys A m c (fun k => some k ≠ gs) (fun _ => False) hs hx h.row hC (fun _ _ h => h) (fun _ h => h.elim) (fun k hk he => ?_) h.bel h.bel.size (by omega) ?_
  · have := (h.src k he.symm).lt; omega
  · intro v1 w1 hr hb hg _
    exact K v1 w1 (h.grow hr hb hg)
theorem Blk.u8_at {w : World} {g t : Nat} {ds : List Int} (h : Blk w g t (u8s ds)) (i : Nat) (p : Int) (hi : ds[i]? = some p) : w.cell? ⟨g, i, none⟩ = some (.int .u8 p) := by
  rw [h.cell]; simp [u8s, hi]
/-- A part of the block that is read. -/
theorem C_part {g t : Nat} (h : Blk W g t (u8s ds)) (i m : Nat) (hm : i + m ≤ ds.length) (hb : ds.length ≤ 1000) : Kd.C (Kd.int .u8) W (some ⟨g, i, none⟩) m ((ds.drop i).take m) := by
  refine ⟨by simp; omega, by omega, fun _ => ⟨_, rfl, fun j p hj => ⟨[.int .u8 p], rfl, rfl, fun q u hq => ?_⟩⟩⟩
  have hj1 : j < m := by
    rcases Nat.lt_or_ge j m with h | h
    · exact h
    · rw [List.getElem?_eq_none (by simp; omega)] at hj; cases hj
  rw [List.getElem?_take_of_lt hj1, List.getElem?_drop] at hj
  match q with
  | 0 =>
    obtain rfl : Value.int .u8 p = u := by simpa using hq
    have e : (⟨g, i, none⟩ : Addr).add (j * (Kd.int .u8).sz + 0) = ⟨g, i + j, none⟩ := by
      show (⟨g, i, none⟩ : Addr).add (j * 1 + 0) = _
      simp [Addr.add]
    rw [e]
    exact h.u8_at _ _ hj
  | q + 1 => simp at hq
/-- Bytes that the call has just laid out read as themselves. -/
theorem C_new (W : World) (ys : List Int) (hb : ys.length ≤ 1000) : Kd.C (Kd.int .u8) (W.alloc (.cells (u8s ys) 5)) (some ⟨W.heap.size, 0, none⟩) ys.length ys := by
  have h : Blk (W.alloc (.cells (u8s ys) 5)) W.heap.size 5 (u8s ys) := heap_alloc_new W _
  have := C_part h 0 ys.length (by omega) hb
  simpa using this
theorem C_new2 (W : World) (a b : Int) : Kd.C (Kd.int .u8) (W.alloc (.cells #[.int .u8 a, .int .u8 b] 5)) (some ⟨W.heap.size, 0, none⟩) 2 [a, b] := C_new W [a, b] (by simp)
theorem C_new3 (W : World) (a b c : Int) : Kd.C (Kd.int .u8) (W.alloc (.cells #[.int .u8 a, .int .u8 b, .int .u8 c] 5)) (some ⟨W.heap.size, 0, none⟩) 3 [a, b, c] := C_new W [a, b, c] (by simp)
end
end Go.Proofs.YtjleceekccehoaaGreatDoor.Pr
