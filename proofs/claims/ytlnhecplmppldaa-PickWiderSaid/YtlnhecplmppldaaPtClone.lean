import Derived.Test.YtlnhecplmppldaaPr0
import Derived.Test.YtlnhecplmppldaaFK
import Derived.WalkKit
import Derived.WalkSpells
import Derived.WalkLawsBesides
import Derived.Deep.QuietTactic
import Derived.Deep.RegionHeld3
import Derived.Deep.RegionHeldLaw
import Derived.Deep.DeepCutAuto
import Derived.BigQuiet
import Derived.RegionTactic
import Derived.BigRegion
import Derived.Outline
import Derived.Shelf.Abstract
set_option linter.unusedVariables false
set_option linter.unusedSimpArgs false
namespace Go.Proofs.Ytlnhecplmppldaa.Pr
open Go.RowKit Go.Proofs.Fl Go.Proofs.YtlnhecplmppldaaW.PrintWords Go.Proofs.YtlnhecplmppldaaW.PrintLast Go.Proofs.YtlnhecplmppldaaW.PrintMore


theorem flat_Pt (w : World) (base : Nat) (ok : Nat → Prop) (x : S29) (cs : List Value) (h : k29.K w x cs) : k29.M w base ok x cs := by
  rw [k29_open h]
  exact k29_mkM w base ok x

set_option maxHeartbeats 1000000 in
set_option maxRecDepth 100000 in
theorem clone_Pt (A0 : Option Addr) (c0 : Nat) (l0 : List S29) (w : World) (hr0 : Kd.C k29 w A0 l0.length l0) (hc0 : l0.length ≤ c0) (hb : l0.length * 16 ≤ 140737488355328) :
    Calls Try.prog 38 #[.slice A0 l0.length c0] w fun e w' => ∃ v : Value, e = .returned v ∧ Kd.R k29 29 w' w.heap.size (fun _ => True) v l0 ∧ Below w.heap.size w w' := by
  have HR0 := Aside0.mk hr0
  have HB := Aside0.mk (Below.refl w.heap.size w)
  have q22 : ∀ (w : World) (a : Option Addr) (n c n' c' : Nat), (binOp .eql 22 (.slice a n c) (.slice none n' c')).run Try.prog w = .ok (.bool a.isNone) w := fun w a n c n' c' => Lib.run_eql_slice_nil w _ _ a n c n' c' Try.underlying22
  cases A0 with
  | none =>
    have hl : l0 = [] := by
      rcases Nat.eq_zero_or_pos l0.length with h | h
      · exact List.eq_nil_of_length_eq_zero h
      · obtain ⟨ad, e, _⟩ := at_T29 hr0 0 (by omega) (by omega)
        cases e
    subst hl
    clear hr0 hc0 hb
    go_enter Try.func38, Try.ntmps38
    go_wp2
    go_ret
    exact ⟨_, rfl, Kd.R_nil _ _ _ _ _, HB.out⟩
  | some ad =>
    clear hr0 hc0
    go_enter Try.func38, Try.ntmps38
    go_wp2_with (first
      | ((with_reducible refine gate_dst (N := 5) rfl ?_); refine Kd.R_lit k29 _ 29 ?hg (N := 5) ?hd (xs := ([] : List S29)) (inner := []) (ok := fun _ => True) (okp := fun _ => True) ?hr ?hp (fun _ hk => hk) trivial (Below.refl _ _) (Nat.le_refl _) (by simp) ?_; (case hd => rfl); (case hg => rfl); (case hr => first | (go_simp; done) | (go_simp; rfl)); (case hp => exact (Reps.none _ _)); intro v5 w5 ho5 hb5 hg_ hnew_; clear hg_ hnew_; have HO5 := Aside0.mk ho5; have HB5 := Aside0.mk hb5; clear ho5 hb5)
      | ((with_reducible refine gate_builtin (b := .append) (xs := #[.tmp 5, .tmp 6]) rfl ?_); at_builtin; refine Kd.R_append_rows k29 (w0 := w) w.heap.size rfl (.tmp 5) (.tmp 6) 22 29 _ 16 rfl Try.underlying22 info29 rfl (by decide) (by omega) v5 [] l0 (some ad) l0.length c0 (fun _ => True) (fun k => some k ≠ v5.ownBlock) rfl rfl HO5.out (Kd.C_below HR0.out HB5.out) (fun x cs h => flat_Pt _ _ _ x cs h) (fun k h => ⟨trivial, h⟩) (fun _ _ => trivial) HB5.out HB5.out.size (by simpa using hb) ?_; intro v6 w6 ho6 hb6 hg_ hnew_; clear hg_ hnew_; have HO6 := Aside0.mk ho6; have HB6 := Aside0.mk hb6; clear ho6 hb6))
    go_ret
    exact ⟨v6, rfl, HO6.out, HB6.out⟩

end Go.Proofs.Ytlnhecplmppldaa.Pr
