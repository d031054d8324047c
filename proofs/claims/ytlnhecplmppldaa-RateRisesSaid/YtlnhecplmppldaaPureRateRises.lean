import Derived.Test.YtlnhecplmppldaaURises
import Derived.OpenShut
set_option linter.unusedVariables false
set_option linter.unusedSimpArgs false
namespace Go.Proofs.Ytlnhecplmppldaa.Pr
open Go.RowKit Go.Proofs.Fl Go.Proofs.YtlnhecplmppldaaW.PrintWords Go.Proofs.YtlnhecplmppldaaW.PrintLast Go.Proofs.YtlnhecplmppldaaW.PrintMore

theorem u64_wf {v : Int} (h : (Lit.int .u64 v).wf = true) : 0 ≤ v ∧ v < 18446744073709551616 := by
  have h1 : IntKind.u64.min ≤ v ∧ v ≤ IntKind.u64.max := by simpa [Lit.wf] using h
  exact ⟨h1.1, Int.lt_of_le_of_lt h1.2 (by decide)⟩
def inU (l : List S29) : Bool := l.all fun x => decide (0 ≤ x.f1) && decide (x.f1 < 18446744073709551616)
def soundingslaw12_RateRises.f (k : Nat) (l : List S29) (s t : Int) : Option Bool := if inU l = true then some true else none
theorem soundingslaw12_RateRises.calls (k : Nat) (A0 : Option Addr) (c0 : Nat) (l0 : List S29) (a1 a2 : Int) (r : Bool) (w : World) (hr0 : Kd.C k29 w A0 l0.length l0) (hc0 : l0.length ≤ c0) (h : soundingslaw12_RateRises.f k l0 a1 a2 = some r) :
    Calls Try.prog 8 #[.slice A0 l0.length c0, .int .i64 a1, .int .i64 a2] w fun e w' => e = .returned (.bool r) ∧ Below w.heap.size w w' := by
  unfold soundingslaw12_RateRises.f at h
  split at h
  · rename_i hi
    obtain rfl := Option.some.inj h
    exact rises_any A0 c0 l0 a1 a2 w hr0 hc0 (fun x hx => by
      have := List.all_eq_true.1 hi x hx
      simpa using this)
  · cases h
theorem PureRateRises (l : List S29) (s t : Int) (hl : l.length ≤ maxLen ∧ ∀ x ∈ l, (Lit.int .i64 x.f0).wf = true ∧ (Lit.int .u64 x.f1).wf = true) (hs : (Lit.int .i64 s).wf = true) (ht : (Lit.int .i64 t).wf = true) : ∃ k, soundingslaw12_RateRises.f k l s t = some true := by
  refine ⟨0, ?_⟩
  unfold soundingslaw12_RateRises.f
  rw [if_pos]
  unfold inU
  rw [List.all_eq_true]
  intro x hx
  have := u64_wf (hl.2 x hx).2
  simpa using this

end Go.Proofs.Ytlnhecplmppldaa.Pr
