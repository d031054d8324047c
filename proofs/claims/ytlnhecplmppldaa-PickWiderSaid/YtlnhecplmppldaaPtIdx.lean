import Derived.Test.YtlnhecplmppldaaPr0
import Derived.Test.YtlnhecplmppldaaFK
import Derived.WalkKit
import Derived.WalkSpells
import Derived.WalkLawsBesides
import Derived.Deep.QuietTactic
import Derived.Deep.RegionHeld3
import Derived.Deep.RegionHeldLaw
import Derived.Deep.DeepCutAuto
import Derived.BigQuiet
import Derived.RegionTactic
import Derived.BigRegion
import Derived.Outline
import Derived.Shelf.Abstract
set_option linter.unusedVariables false
set_option linter.unusedSimpArgs false
namespace Go.Proofs.Ytlnhecplmppldaa.Pr
open Go.RowKit Go.Proofs.Fl Go.Proofs.YtlnhecplmppldaaW.PrintWords Go.Proofs.YtlnhecplmppldaaW.PrintLast Go.Proofs.YtlnhecplmppldaaW.PrintMore


/-- The first place of which a predicate holds, from a place on. -/
def firstFrom {α : Type} (p : α → Bool) : List α → Nat → Option Nat
  | [], _ => none
  | x :: r, i => if p x = true then some i else firstFrom p r (i + 1)
def firstOf {α : Type} (p : α → Bool) (l : List α) : Int := match firstFrom p l 0 with
  | some i => i
  | none => -1

set_option maxHeartbeats 2000000 in
set_option maxRecDepth 100000 in
theorem indexFunc_Pt (p : S29 → Bool) (g : FuncId) (caps : Array Value) (B : Nat) (W w : World) (HB : Below B W w) (hBw : B ≤ w.heap.size) (A0 : Option Addr) (c0 : Nat) (l0 : List S29) (hr0 : Kd.C k29 w A0 l0.length l0) (hc0 : l0.length ≤ c0) (hb : l0.length ≤ 9223372036854775807)
    (eg : ∀ args w, (callFunc g args).run Try.prog w = .ok (.enter g args) w)
    (hf : ∀ (x : S29) (w1 : World), Below B W w1 → Calls Try.prog g (#[.agg #[.int .i64 x.f0, .int .u64 x.f1]] ++ caps) w1 fun e w' => e = .returned (.bool (p x)) ∧ Below w1.heap.size w1 w') :
    Calls Try.prog 45 #[.slice A0 l0.length c0, .func (.func g) #[] caps] w fun e w' => e = .returned (.int .i64 (firstOf p l0)) ∧ Below w.heap.size w w' := by
  have HR0 := Aside0.mk hr0
  have HF := Aside0.mk hf
  have HB0 := Aside0.mk HB
  have HBW := Aside0.mk hBw
  clear hr0 hf HB hBw hc0
  go_enter Try.func45, Try.ntmps45
  go_wp2
  go_loopw [5, 8] (fun v5 v8 w' => ∃ (i : Nat), v8 = .int .i64 i ∧ i ≤ l0.length ∧ Aside0 (firstFrom p (l0.drop i) i = firstFrom p l0 0) ∧ Aside0 (Below w.heap.size w w')) (fun _ v8 _ => l0.length - (intOf v8).toNat)
  case atStart => exact ⟨0, rfl, Nat.zero_le _, ⟨by simp⟩, ⟨Below.refl _ _⟩⟩
  case round =>
    obtain ⟨i, rfl, hil, HI, HB1⟩ := hrel
    by_cases hlt : i < l0.length
    · have hC := Kd.C_below HR0.out HB1.out
      obtain ⟨ai, ei, y0, y1⟩ := at_T29 hC (i : Nat) (by omega) (by omega)
      cases ei
      obtain ⟨xi, hxi⟩ : ∃ x, x = rd_T29 l0 (i : Nat) := ⟨_, rfl⟩
      have hd : l0.drop i = xi :: l0.drop (i + 1) := by
        rw [List.drop_eq_getElem_cons hlt, hxi]; simp [rd_T29, hlt]
      have hI := HI.out
      rw [hd, firstFrom] at hI
      rw [← hxi] at y0 y1
      simp only [Int.toNat_natCast] at y0 y1
      have hI2 := Aside0.mk hI
      clear hI hxi hd hC
      have hcall := HF.out xi wr (by exact ⟨HB1.out.os.trans HB0.out.os, HB1.out.tape.trans HB0.out.tape, HB1.out.output.trans HB0.out.output, Nat.le_trans HB0.out.size HB1.out.size, fun k hk => (HB1.out.block k (Nat.lt_of_lt_of_le hk HBW.out)).trans (HB0.out.block k hk)⟩)
      cases hp : p xi with
      | true =>
        rw [hp] at hcall
        have HP := Aside0.mk hp
        clear hp
        go_wp2_with (go_at_fn g; refine hcall.mono ?_; rintro e w' ⟨rfl, hb'⟩)
        go_ret
        refine ⟨?_, below_then HB1.out HB1.out.size hb'⟩
        have h := hI2.out
        rw [if_pos HP.out] at h
        unfold firstOf
        rw [← h]
        rfl
      | false =>
        rw [hp] at hcall
        have HP := Aside0.mk hp
        clear hp
        go_wp2_with (go_at_fn g; refine hcall.mono ?_; rintro e w' ⟨rfl, hb'⟩)
        go_roundw
        case rel => exact ⟨i + 1, by go_num, by omega, ⟨by have h := hI2.out; rw [if_neg (by rw [HP.out]; exact Bool.false_ne_true)] at h; exact h⟩, ⟨below_then HB1.out HB1.out.size hb'⟩⟩
        case measure => simp [intOf]; omega
    · have hI := Aside0.mk (show firstOf p l0 = -1 from by have h := HI.out; rw [List.drop_eq_nil_of_le (by omega)] at h; unfold firstOf; rw [← h]; rfl)
      have hge : l0.length ≤ i := by omega
      clear hlt
      go_wp2
      go_ret
      exact ⟨by rw [hI.out]; rfl, HB1.out⟩

end Go.Proofs.Ytlnhecplmppldaa.Pr
