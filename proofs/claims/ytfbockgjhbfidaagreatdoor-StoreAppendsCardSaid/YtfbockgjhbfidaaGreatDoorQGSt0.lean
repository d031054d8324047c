/- Texts of this session, cut down to what one claim needs and joined: StKd, StClone. -/
import Derived.Test.YtfbockgjhbfidaaGreatDoorQPr0
import Derived.Test.YtfbockgjhbfidaaGreatDoorQGDel
section
set_option linter.unusedVariables false
set_option linter.unusedSimpArgs false
namespace Go.Proofs.YtfbockgjhbfidaaGreatDoor.Pr
open Go.RowKit Go.Proofs.YtfbockgjhbfidaaGreatDoorW.PrintWords Go.Proofs.YtfbockgjhbfidaaGreatDoorW.PrintLast Go.Proofs.YtfbockgjhbfidaaGreatDoorW.PrintMore

/-- A kind out of a relation that asks nothing of the world. -/
def flatK {α : Type} (R : α → List Value → Prop) (sz : Nat) (hl : ∀ {x cs}, R x cs → cs.length = sz) (h1 : ∀ {x cs}, R x cs → ∀ u ∈ cs, u.oneCell' = true) : Kd α where
 sz := sz
 E := []
 K := fun _ x cs => R x cs
 M := fun _ _ _ x cs => R x cs
 K_len := fun h => hl h
 K_one := fun h => h1 h
 K_below := fun _ h => h
 K_of_M := fun h => h
 M_mono := fun _ h => h
 M_bound := fun h => h
 M_move := fun _ h => h
 M_lower := fun _ h => h
/-- What a series' cells say, whatever the world. -/
structure Rel where
 R : S47 → List Value → Prop
 hl : ∀ {x cs}, R x cs → cs.length = 2
 h1 : ∀ {x cs}, R x cs → ∀ u ∈ cs, u.oneCell' = true
def kS (W : Rel) : Kd S47 := flatK W.R 2 W.hl W.h1
/-- Series as a world has them. -/
def relOf (W : World) : Rel := ⟨fun x cs => k47.K W x cs, fun h => k47.K_len h, fun h => k47.K_one h⟩
/-- The same, or one more. -/
def relPlus (W : World) (x1 : S47) (u1 u2 : Value) (h1 : u1.oneCell' = true) (h2 : u2.oneCell' = true) : Rel :=
 ⟨fun x cs => k47.K W x cs ∨ (x = x1 ∧ cs = [u1, u2]), fun h => by
  rcases h with h | ⟨_, h⟩
  ·exact k47.K_len h
  ·rw [h]; rfl, fun h u hu => by
  rcases h with h | ⟨_, h⟩
  ·exact k47.K_one h u hu
  ·rw [h] at hu
   rcases List.mem_cons.1 hu with rfl | hu
   ·exact h1
   ·rw [List.mem_singleton.1 hu]; exact h2⟩
theorem kS_C {W w : World} {A : Option Addr} {n : Nat} {l : List S47} (h : Kd.C k47 W A n l) (hb : Below W.heap.size W w) : Kd.C (kS (relOf W)) w A n l := ReadsRow.imp_ h hb (fun _ _ hp => hp)
theorem kS_imp {W1 W2 : Rel} {w : World} {B : Nat} {ok : Nat → Prop} {v : Value} {l : List S47} (h : Kd.R (kS W1) 47 w B ok v l) (hi : ∀ x cs, W1.R x cs → W2.R x cs) : Kd.R (kS W2) 47 w B ok v l := by
 obtain ⟨h0, inner, hown, hr⟩ := h
 exact ⟨h0, inner, hown, hr.imp_ hi⟩
theorem kS_reads {W : Rel} {w : World} {B : Nat} {ok : Nat → Prop} {v : Value} {l : List S47} (h : Kd.R (kS W) 47 w B ok v l) (hi : ∀ x cs, W.R x cs → k47.K w x cs) : ∃ A c, v = .slice A l.length c ∧ l.length ≤ c ∧ Kd.C k47 w A l.length l := by
 obtain ⟨A, c, e, hc, hC⟩ := Kd.R_reads h
 exact ⟨A, c, e, hc, ReadsRow.imp_ hC (Below.refl _ _) hi⟩
theorem infoSer : (Tryz.prog.info? 47).map (fun i => (i.zero, i.size, i.bytes)) = some (some (.agg #[.slice none 0 0, .slice none 0 0]), 2, 48) := by kernel_rfl
end Go.Proofs.YtfbockgjhbfidaaGreatDoor.Pr
end

section
set_option linter.unusedVariables false
set_option linter.unusedSimpArgs false
namespace Go.Proofs.YtfbockgjhbfidaaGreatDoor.Pr
open Go.RowKit Go.Proofs.YtfbockgjhbfidaaGreatDoorW.PrintWords Go.Proofs.YtfbockgjhbfidaaGreatDoorW.PrintLast Go.Proofs.YtfbockgjhbfidaaGreatDoorW.PrintMore

set_option maxHeartbeats 1000000 in
set_option maxRecDepth 100000 in
theorem clone_St (W : Rel) (A0 : Option Addr) (c0 : Nat) (l0 : List S47) (w : World) (hr0 : Kd.C (kS W) w A0 l0.length l0) (hc0 : l0.length ≤ c0) (hb : l0.length * 48 ≤ 140737488355328) :
  Calls Tryz.prog 22 #[.slice A0 l0.length c0] w fun e w' => ∃ v : Value, e = .returned v ∧ Kd.R (kS W) 47 w' w.heap.size (fun _ => True) v l0 ∧ Below w.heap.size w w' := by
 have HR0 := Aside0.mk hr0
 have HB := Aside0.mk (Below.refl w.heap.size w)
 have q22 : ∀ (w : World) (a : Option Addr) (n c n' c' : Nat), (binOp .eql 22 (.slice a n c) (.slice none n' c')).run Tryz.prog w = .ok (.bool a.isNone) w := fun w a n c n' c' => Lib.run_eql_slice_nil w _ _ a n c n' c' Tryz.underlying22
 cases A0 with
 | none =>
  have hl : l0 = [] := by
   rcases Nat.eq_zero_or_pos l0.length with h | h
   ·exact List.eq_nil_of_length_eq_zero h
   ·obtain ⟨ad, c, e, _⟩ := Kd.C_get hr0 z47 0 (by omega) (by omega)
    cases e
  subst hl
  clear hr0 hc0 hb
  go_enter Tryz.func22, Tryz.ntmps22
  go_wp2
  go_ret
  exact ⟨_, rfl, Kd.R_nil _ _ _ _ _, HB.out⟩
 | some ad =>
  clear hr0 hc0
  go_enter Tryz.func22, Tryz.ntmps22
  go_wp2_with (first
   | ((with_reducible refine gate_dst (N := 5) rfl ?_); refine Kd.R_lit (kS W) _ 47 ?hg (N := 5) ?hd (xs := ([] : List S47)) (inner := []) (ok := fun _ => True) (okp := fun _ => True) ?hr ?hp (fun _ hk => hk) trivial (Below.refl _ _) (Nat.le_refl _) (by simp) ?_; (case hd => rfl); (case hg => rfl); (case hr => first | (go_simp; done) | (go_simp; rfl)); (case hp => exact (Reps.none _ _)); intro v5 w5 ho5 hb5 hg_ hnew_; clear hg_ hnew_; have HO5 := Aside0.mk ho5; have HB5 := Aside0.mk hb5; clear ho5 hb5)
   | ((with_reducible refine gate_builtin (b := .append) (xs := #[.tmp 5, .tmp 6]) rfl ?_); at_builtin; refine Kd.R_append_rows (kS W) (w0 := w) w.heap.size rfl (.tmp 5) (.tmp 6) 22 47 _ 48 rfl Tryz.underlying22 infoSer rfl (Nat.succ_pos 1) (by omega) v5 [] l0 (some ad) l0.length c0 (fun _ => True) (fun k => some k ≠ v5.ownBlock) rfl rfl HO5.out (ReadsRow.imp_ HR0.out HB5.out (fun _ _ hp => hp)) (fun x cs h => h) (fun k h => ⟨trivial, h⟩) (fun _ _ => trivial) HB5.out HB5.out.size (by simpa using hb) ?_; intro v6 w6 ho6 hb6 hg_ hnew_; clear hg_ hnew_; have HO6 := Aside0.mk ho6; have HB6 := Aside0.mk hb6; clear ho6 hb6))
  go_outline
  go_ret
  exact ⟨v6, rfl, HO6.out, HB6.out⟩
end Go.Proofs.YtfbockgjhbfidaaGreatDoor.Pr
end
