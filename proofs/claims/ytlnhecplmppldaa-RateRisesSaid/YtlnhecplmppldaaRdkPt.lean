import Derived.Test.YtlnhecplmppldaaRow
set_option linter.unusedVariables false
set_option linter.unusedSimpArgs false
namespace Go.Proofs.Ytlnhecplmppldaa.Pr
open Go.RowKit Go.Proofs.YtlnhecplmppldaaW.PrintWords

theorem rdk29 : RdK Try.prog k29 29 (fun x => (Lit.int .i64 x.f0).wf = true ∧ (Lit.int .u64 x.f1).wf = true) :=
  RdK.iso (RdK.pair Try.underlying29 rfl (RdK.int Try.underlying2 (by kernel_rfl)) (RdK.int Try.underlying24 (by kernel_rfl)) rfl (by kernel_rfl)) (fun x : S29 => (x.f0, x.f1)) (fun p => ⟨p.1, p.2⟩) (fun _ => rfl)
instance : Inhabited S29 := ⟨⟨0, 0⟩⟩
theorem rdk22 : RdK Try.prog (Kd.slice 29 k29) 22 (fun l => l.length ≤ maxLen ∧ ∀ x ∈ l, (Lit.int .i64 x.f0).wf = true ∧ (Lit.int .u64 x.f1).wf = true) :=
  RdK.slice Try.underlying22 (by kernel_rfl) rdk29

end Go.Proofs.Ytlnhecplmppldaa.Pr
